/- What leads to a module: each one asks for the next, the last one is what is built: for every world that Make makes, every manifest that Ask makes of it, every module. No condition but the statement's own. -/
import Derived.Test.YtmhlgndhcfdlbaaGreatDoorV5
import Derived.Test.YtmhlgndhcfdlbaaGreatDoorV1
import Derived.Test.YtmhlgndhcfdlbaaGreatDoorRows
import Derived.Test.YtmhlgndhcfdlbaaGreatDoorTie
import Derived.Test.YtmhlgndhcfdlbaaGreatDoorCards
import Derived.Test.YtmhlgndhcfdlbaaGreatDoorV4
import Derived.WalkKit
import Derived.ProofKit
import Derived.OpenShut
import Derived.ShutString
import Derived.ChangeOld
import Derived.Below
import Derived.SizedLaws
import Derived.LaidMore
import Derived.Lay
import Derived.SevenTiedAt
import Derived.Stop.Joined
import Derived.KernelRfl
set_option linter.unusedSimpArgs false
/-! What leads to a module: each one asks for the next, the last one is what is built. -/
namespace Go.Vx.Z
open Go Go.Vx
set_option linter.unusedVariables false
set_option maxRecDepth 100000
theorem there_loop (r : List Req) (i : Nat) (hi : i < r.length) (a : List Req) (x3 : Int) (w : List Mod) (rv : List Rev) (md : ByteArray) (rq ex : List Req) (sw : List Swp) (hn : a.length ≤ 1000000) (hin : r[i] ∈ a) :
    loop B12_0 (r, (i : Int), a, x3, false, Int.ofNat 0, w, rv, md, rq, ex, sw, ()) = some (r, (i : Int), x3, true, w, rv, md, rq, ex, sw, ()) := by
  have := loop_row (B := B12_0) (fun k => (r, (i : Int), a, x3, (a.take k).any (eqR r[i]), (k : Int), w, rv, md, rq, ex, sw, ())) a.length (e := (r, (i : Int), x3, true, w, rv, md, rq, ex, sw, ())) (fun k hk => by
    have htk : a.take (k + 1) = a.take k ++ [a[k]] := by rw [List.take_succ_eq_append_getElem hk]
    rw [B12_0_eq, lt_in hk, cond_true, wrap_next hk (by omega), htk, List.any_append]
    cases hc : (a.take k).any (eqR r[i]) with
    | true => simp only [cond_true, Bool.true_or]
    | false =>
      simp only [cond_false, Bool.false_or]
      rw [ge_zero, at_in hk, ge_zero, at_in hi]
      simp only [cond_true, Option.bind_some, beq_bs]
      have : (bs a[k].1 == bs r[i].1 && (a[k].2.1 == r[i].2.1 && (a[k].2.2.1 == r[i].2.2.1 && (a[k].2.2.2.1 == r[i].2.2.2.1 && bs a[k].2.2.2.2.1 == bs r[i].2.2.2.2.1)))) = [a[k]].any (eqR r[i]) := by
        have h1 : (bs a[k].1 == bs r[i].1 && (a[k].2.1 == r[i].2.1 && (a[k].2.2.1 == r[i].2.2.1 && (a[k].2.2.2.1 == r[i].2.2.2.1 && bs a[k].2.2.2.2.1 == bs r[i].2.2.2.2.1)))) = eqR a[k] r[i] := rfl
        rw [h1]
        simp only [List.any_cons, List.any_nil, Bool.or_false]
        by_cases he : a[k] = r[i]
        · rw [eqR_iff.2 he, eqR_iff.2 he.symm]
        · have f1 : eqR a[k] r[i] = false := by rw [← Bool.not_eq_true]; exact fun h => he (eqR_iff.1 h)
          have f2 : eqR r[i] a[k] = false := by rw [← Bool.not_eq_true]; exact fun h => he (eqR_iff.1 h).symm
          rw [f1, f2]
      rw [this]) (by
    simp only
    rw [B12_0_eq, lt_out, List.take_length, any_mem.2 hin]
    rfl)
  exact this
theorem whys_loop (r : List Req) (w : List Mod) (rv : List Rev) (md : ByteArray) (rq ex : List Req) (sw : List Swp) (h : okS ex sw w) (hn : r.length ≤ 22000) (h0 : 0 < r.length) (hl : ∀ x, (asksOf md ex sw w x).2.length ≤ 10) (hz : ∀ x ∈ r, (asksOf md ex sw w x).1 = 0) (hc : ∀ (i : Nat) (a b : Req), r[i]? = some a → r[i + 1]? = some b → b ∈ (asksOf md ex sw w a).2) :
    loop B12_1 (r, Int.ofNat 1, w, rv, md, rq, ex, sw, ()) = some (.inr ()) := by
  have := loop_row (B := B12_1) (fun k => (r, ((k + 1 : Nat) : Int), w, rv, md, rq, ex, sw, ())) (r.length - 1) (e := .inr ()) (fun k hk => by
    have hk1 : k + 1 < r.length := by omega
    have hk0 : k < r.length := by omega
    have hw : IntKind.wrap IntKind.i64 (((k + 1 : Nat) : Int) - Int.ofNat 1) = (k : Int) := by
      rw [wrap64 (by simp) (by simp; omega)]
      simp
    have hlx := hl r[k]
    rw [B12_1_eq, lt_in hk1, cond_true, hw, ge_zero, cond_true, at_in hk0, Option.bind_some, F26_is w rv md rq ex sw h r[k], Option.bind_some]
    simp only
    rw [there_loop r (k + 1) hk1 _ _ w rv md rq ex sw (by omega) (hc k _ _ (List.getElem?_eq_getElem hk0) (List.getElem?_eq_getElem hk1)), Option.bind_some]
    simp only
    rw [hz _ (List.getElem_mem hk0), wrap_next hk1 (by omega)]
    rfl) (by
    simp only
    have : r.length - 1 + 1 = r.length := by omega
    rw [B12_1_eq, this, lt_out]
    rfl)
  exact this
theorem pure_BuildWhys (x0 : Int) (x1 x2 : List Int) (x3 : Int) (h0 : (Lit.int .i64 x0).wf = true) (h1 : ∀ x ∈ x1, (Lit.int .i64 x).wf = true) (h2 : ∀ x ∈ x2, (Lit.int .i64 x).wf = true) (h3 : (Lit.int .i64 x3).wf = true) : F12 (x0, x1, x2, x3, ()) = some (true, ()) := by
  obtain ⟨n, w, rv, g1, hM⟩ := F14_is x0 x1
  obtain ⟨md, rq, ex, sw, g2, hA, hD, hN, hmd, hasc⟩ := F15_is hM rv x2
  have hS := made_small hM
  have a1 := hA.rl
  have a2 := hA.el
  have a3 := hA.sl
  have hwl : w.length = n := hM.len
  have hn := hM.pos
  have hn7 := hM.le
  have hrq : ∀ r ∈ rq, okR r = true := fun r hr => (hA.rq r hr).1
  obtain ⟨e, l, g3, hl, h⟩ := list_small md rq ex sw w rv hS (by omega) (by omega) (by omega) hrq
  obtain ⟨k, hk, hk2⟩ := F16_is x3 w.length (by omega) (by omega)
  have hk2' : F16 (x3, Int.ofNat w.length, ()) = some ((k : Int), ()) := hk2
  rw [F12_eq, F13_is, Option.bind_some]
  simp only [Bool.not_true, cond_false]
  rw [g1, Option.bind_some]
  simp only
  rw [g2, Option.bind_some]
  simp only
  rw [g3, Option.bind_some]
  simp only
  rw [hk2', Option.bind_some]
  simp only
  rw [ge_zero, at_in hk]
  simp only [cond_true, Option.bind_some]
  generalize w[k].1 = p
  have h20 := F20_is l p hl
  rcases why_is hM rv md rq ex sw (by omega) (by omega) (by omega) hmd hrq hasc l e g3 p with ⟨w29, _, hw⟩ | ⟨o, r, y, K, rfl, _, rfl, hyo, hyp, hf, hmax, w29, _, hK, hP, hreach, hz, hol, _⟩
  · rw [h20, Option.bind_some, w29, Option.bind_some]
    simp only
    by_cases he : e = 0
    · have hf : findOf l p = none := hw.resolve_left fun h => h he
      rw [he, hf]
      rfl
    · have : (e == Int.ofNat 0) = false := by
        rw [← Bool.not_eq_true]; exact fun h => he (by simpa using h)
      rw [this]
      rfl
  · rw [h20, hf, Option.bind_some, w29, Option.bind_some]
    simp only [Option.elim_some, beq_self_eq_true, Bool.not_true, cond_false]
    have hrl := way_short hP hol
    have hne := hP.ne
    have hw1 : IntKind.wrap IntKind.i64 (Int.ofNat r.length - Int.ofNat 1) = ((r.length - 1 : Nat) : Int) := by
      rw [wrap64 (by simp; omega) (by simp; omega)]
      simp
      omega
    have hlast : r[Int.toNat ((r.length - 1 : Nat) : Int)]? = some y := way_last hP hK
    rw [show ((0 : Int) == Int.ofNat 0) = true from rfl, cond_true, len_ne hne, cond_false, hw1, ge_zero, cond_true, hlast, Option.bind_some]
    simp only [beq_bs]
    have hself : (bs y.1 == bs p && (y.2.1 == (mkB sw y).2.1 && (y.2.2.1 == (mkB sw y).2.2.1 && (y.2.2.2.1 == (mkB sw y).2.2.2.1 && bs y.2.2.2.2.1 == bs (mkB sw y).2.2.2.2.1)))) = true := by
      rw [hyp]; simp [mkB]
    rw [hself]
    simp only [Bool.not_true, cond_false]
    obtain ⟨c1, _, c3⟩ := hP.chain
    rw [whys_loop r w rv md rq ex sw (small_ok ex sw w hS (by omega) (by omega)) hrl hne (asksOf_len md ex sw w 10 hS.reqs) (fun x hx => hz x (c1 x hx)) c3, Option.bind_some]
    rfl
end Go.Vx.Z
namespace Go.Proofs.YtmhlgndhcfdlbaaGreatDoor
open Go Go.Vx Go.ChangeShapes Go.WideShapes Go.ChangeAt Go.RowKit
open Go.ChangeMaps (open_string shut_string)
set_option linter.unusedVariables false
namespace buildWhys
theorem own : ownKnob Tryz.prog.godebug = none := by kernel_rfl
theorem laidOut : laidOutB Tryz.prog = true := by kernel_rfl
set_option maxRecDepth 100000 in
theorem lifted (os : Os) (started : os.Started) (H : Type) (enc : TypeId × Value → H) :
    ReturnsInHanded {} Tryz.checked os 12 .any (fun w args => (Rows.buildWhysSpec.pre enc Tryz.prog Tryz.f12 Rows.buildWhysRow.domain false w args ∧ laidMetH Tryz.prog Rows.buildWhysRow.laid w) ∧ sizedMet enc Tryz.prog Tryz.f12 (OpenSpec.ofChange Rows.buildWhysSpec) false w args)
      (Rows.buildWhysSpec.post enc Tryz.prog Tryz.f12 false true false false) := by
  refine returnsInHanded_of_change_and (C := Tryz.checked) (X := fun w _ => laidMetH Tryz.prog Rows.buildWhysRow.laid w) (fun _ _ _ hh h => h.of_heap hh) own started (by kernel_rfl) Tryz.func12
    (ChangeSpec.witness_shaped (enc := enc) (C := Tryz.checked) (os := os) (X := fun w _ => laidMetH Tryz.prog Rows.buildWhysRow.laid w) false (World.laidAll Tryz.prog os Rows.buildWhysRow.laid) #[.int .i64 0, .slice none 0 0, .slice none 0 0, .int .i64 0] 8 (World.laidAll_os _ _ _)
      (World.shaped_of_ZipB (by kernel_rfl) (by kernel_rfl)) (by kernel_rfl) (by kernel_rfl) (by kernel_rfl)
      (by rw [MakeChecks.laidMetH_plain _ _ _ (by kernel_rfl)]; exact laidMet_laidAll _ (by kernel_rfl) (by kernel_rfl))) ?_
  intro W base args ds gs before hval0 hW hc hsz0 hL _
  have hsz : (DataW.weightsEach Tryz.prog (Tryz.f12.params.toList ++ Rows.buildWhysSpec.plain.varTypes Tryz.prog) (ds ++ gs)).all (· ≤ reachBytes) = true := hsz0
  have hval : ∀ (j : Nat) t v, Tryz.f12.params[j]? = some t → args[j]? = some v → Value.okWide Tryz.prog W .any base t v := hval0
  have hW' := hW
  obtain ⟨p, q, hA0, hV, rfl, hfz, hnd⟩ := hW
  have hA : DataW.TrodAll enc Tryz.prog W 0 (fun _ => true) true Tryz.f12.params.toList args.toList ds p := hA0
  rw [Tryz.params12] at hA hval hsz
  obtain ⟨v0, vs0, d0, ds0, p0, q0, hargs, rfl, rfl, h0, r0⟩ := trodAll_cons hA
  obtain ⟨v1, vs1, d1, ds1, p1, q1, rfl, rfl, rfl, h1, r1⟩ := trodAll_cons r0
  obtain ⟨v2, vs2, d2, ds2, p2, q2, rfl, rfl, rfl, h2, r2⟩ := trodAll_cons r1
  obtain ⟨v3, vs3, d3, ds3, p3, q3, rfl, rfl, rfl, h3, r3⟩ := trodAll_cons r2
  obtain ⟨rfl, rfl, rfl⟩ := trodAll_nil r3
  obtain rfl : args = #[v0, v1, v2, v3] := by cases args; simp_all
  obtain ⟨rfl, rfl⟩ := trodVars_none hV
  obtain ⟨a0, rfl, rfl, rfl, w0⟩ := open_int Tryz.underlying3 (hval 0 3 v0 rfl rfl) h0
  obtain ⟨a1, len1, cap1, rfl⟩ := okWide_slice Tryz.underlying22 (hval 1 22 v1 rfl rfl)
  have k1 := h1
  have lt1 : ∀ x ∈ p1, x.block < W.heap.size := by obtain ⟨m, hm⟩ := k1; exact DataW.trod_lt m _ _ _ hm
  obtain ⟨z1, w1⟩ : ∃ zs, IsRow .i64 W a1 len1 cap1 zs := by
    obtain ⟨fuel, hf⟩ := h1
    rcases open_ints Tryz.underlying22 Tryz.underlying3 (by kernel_rfl) hf with ⟨hcs, _⟩ | ⟨x, l, c, zs, hcs, _, hl, hm, hz, _, hcell, hwz⟩
    · simp [Value.cells] at hcs
      obtain ⟨rfl, rfl, rfl⟩ := hcs
      exact ⟨[], .inl ⟨rfl, rfl, rfl, rfl⟩⟩
    · simp [Value.cells] at hcs
      obtain ⟨rfl, rfl, rfl⟩ := hcs
      exact ⟨zs, .inr ⟨_, rfl, hl, hm, by simpa using hz, hcell, hwz⟩⟩
  have wf1 : ∀ x ∈ z1.take len1, (Lit.int .i64 x).wf = true := by
    rcases w1 with ⟨_, _, _, rfl⟩ | ⟨_, _, _, _, _, _, hwf⟩
    · simp
    · exact fun x hx => hwf x (List.mem_of_mem_take hx)
  obtain ⟨a2, len2, cap2, rfl⟩ := okWide_slice Tryz.underlying22 (hval 2 22 v2 rfl rfl)
  have k2 := h2
  have lt2 : ∀ x ∈ p2, x.block < W.heap.size := by obtain ⟨m, hm⟩ := k2; exact DataW.trod_lt m _ _ _ hm
  obtain ⟨z2, w2⟩ : ∃ zs, IsRow .i64 W a2 len2 cap2 zs := by
    obtain ⟨fuel, hf⟩ := h2
    rcases open_ints Tryz.underlying22 Tryz.underlying3 (by kernel_rfl) hf with ⟨hcs, _⟩ | ⟨x, l, c, zs, hcs, _, hl, hm, hz, _, hcell, hwz⟩
    · simp [Value.cells] at hcs
      obtain ⟨rfl, rfl, rfl⟩ := hcs
      exact ⟨[], .inl ⟨rfl, rfl, rfl, rfl⟩⟩
    · simp [Value.cells] at hcs
      obtain ⟨rfl, rfl, rfl⟩ := hcs
      exact ⟨zs, .inr ⟨_, rfl, hl, hm, by simpa using hz, hcell, hwz⟩⟩
  have wf2 : ∀ x ∈ z2.take len2, (Lit.int .i64 x).wf = true := by
    rcases w2 with ⟨_, _, _, rfl⟩ | ⟨_, _, _, _, _, _, hwf⟩
    · simp
    · exact fun x hx => hwf x (List.mem_of_mem_take hx)
  obtain ⟨a3, rfl, rfl, rfl, w3⟩ := open_int Tryz.underlying3 (hval 3 3 v3 rfl rfl) h3
  clear hA0 hval0 hsz0 hsz
  have hst : ∀ y, (RowS a1 z1.length y ∨ RowS a2 z2.length y) → y.spot = none ∧ ∃ v, W.cell? y = some v := by
    intro y hy
    rcases hy with hy | hy
    · exact isRow_st w1 hy
    · exact isRow_st w2 hy
  refine (law_calls (Go.Vx.Z.ok12) rfl (enters_of Tryz.func12 (by kernel_rfl) rfl) (S := fun y => RowS a1 z1.length y ∨ RowS a2 z2.length y) hst (a0, (z1.take len1), (z2.take len2), a3, ()) (Go.Vx.Z.pure_BuildWhys a0 (z1.take len1) (z2.take len2) a3 w0 wf1 wf2 w3) rfl (fun i => ?_)).mono fun e W' ⟨he, bel⟩ => ?_
  · match i with
    | 0 => exact rfl
    | 1 => exact isRow_rep w1 (fun y hy => .inl hy)
    | 2 => exact isRow_rep w2 (fun y hy => .inr (hy))
    | 3 => exact rfl
    | i + 4 => trivial
  subst he
  exact ⟨_, rfl, _, _, _, [], _, [], hW', trodAll_mk1 (shut_bool Tryz.underlying4 _), (trodAll_cons_mk (shut_int Tryz.underlying3 w0) (trodAll_cons_mk (Below.trod laidOut (by kernel_rfl) (of_decide_eq_true (by kernel_rfl)) k1 bel lt1) (trodAll_cons_mk (Below.trod laidOut (by kernel_rfl) (of_decide_eq_true (by kernel_rfl)) k2 bel lt2) (trodAll_cons_mk (shut_int Tryz.underlying3 w3) trodAll_mk0)))), rfl, bel.frame _, fun h => by cases h⟩
theorem holds : Rows.BuildWhysSaid :=
  OpenClaim.holds_of_wide 12 Tryz.f12 rfl rfl rfl rfl rfl rfl rfl ⟨rfl, rfl, rfl, rfl, rfl⟩ rfl rfl rfl rfl rfl (by kernel_rfl) Tryz.func12 (by kernel_rfl)
    (of_decide_eq_true (by kernel_rfl)) (by unfold Func.isWrapper; first | (rw [if_pos (by decide +kernel)]; kernel_rfl) | (rw [if_neg (by decide +kernel)]; exact ⟨rfl, rfl⟩))
    (fun os started H enc _ => lifted os started H enc)
theorem card_holds : Rows.BuildWhysCardSaid :=
  Claim7.holds_tied_plain_at .later [] [.data, .pinned] true (true, "d582014b3baee50914b0e50363f0aa1c829743198b04de7ea16a202eaefeca98") false holds (fun _ h => by cases h) (by kernel_rfl) (fun _ h => by cases h) buildWhys_row_tie rfl ⟨rfl, rfl⟩ (by kernel_rfl) rfl
    (fun f fn hf hfn => by
      obtain rfl : f = 12 := Option.some.inj ((show Tryz.prog.funcNamed "transhumance/transhumancelaw10.BuildWhys" = some 12 by kernel_rfl).symm.trans hf) |>.symm
      obtain rfl : fn = Tryz.f12 := (Option.some.inj (Tryz.func12.symm.trans hfn)).symm
      exact ⟨by kernel_rfl, fun j t ht => by
        rw [Tryz.params12] at ht
        have hm : t ∈ [3, 22, 22, 3] := by simpa using Array.mem_of_getElem? ht
        have hall : ([3, 22, 22, 3].all fun u => !Tryz.prog.wantsStandIn u) = true := by kernel_rfl
        exact (show Tryz.prog.wantsStandIn t = false by simpa using List.all_eq_true.1 hall t hm)⟩)
    (by kernel_rfl)
end buildWhys
end Go.Proofs.YtmhlgndhcfdlbaaGreatDoor
