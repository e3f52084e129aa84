/- With one thing more asked for no module is built lower, and none goes, for every world that Make makes and every manifest that Ask makes of it. No condition but the statement's own. -/
import Derived.Test.YtmhlgndhcfdlbaaGreatDoorV7
import Derived.Test.YtmhlgndhcfdlbaaGreatDoorV6
import Derived.Test.YtmhlgndhcfdlbaaGreatDoorV1
import Derived.Test.YtmhlgndhcfdlbaaGreatDoorRows
import Derived.Test.YtmhlgndhcfdlbaaGreatDoorTie
import Derived.Test.YtmhlgndhcfdlbaaGreatDoorCards
import Derived.Test.YtmhlgndhcfdlbaaGreatDoorV4
import Derived.WalkKit
import Derived.ProofKit
import Derived.OpenShut
import Derived.ShutString
import Derived.ChangeOld
import Derived.Below
import Derived.SizedLaws
import Derived.LaidMore
import Derived.Lay
import Derived.SevenTiedAt
import Derived.Stop.Joined
import Derived.KernelRfl
set_option linter.unusedSimpArgs false
/-! With one thing more asked for no module is built lower, and none goes. -/
namespace Go.Vx.Z
open Go Go.Vx
set_option linter.unusedVariables false
set_option maxRecDepth 100000
theorem made_v {n : Nat} {w : List Mod} (h : Made n w) {m : Mod} (hm : m ∈ w) {y : Rel} (hy : y ∈ m.2.1) : okR (m.1, y.1, y.2.1, y.2.2.1, y.2.2.2.1, ()) = true := (of_made h hm hy y.2.2.1).1
theorem pure_BuildMore (x0 : Int) (x1 x2 : List Int) (x3 : Int) (h0 : (Lit.int .i64 x0).wf = true) (h1 : ∀ x ∈ x1, (Lit.int .i64 x).wf = true) (h2 : ∀ x ∈ x2, (Lit.int .i64 x).wf = true) (h3 : (Lit.int .i64 x3).wf = true) : F3 (x0, x1, x2, x3, ()) = some (true, ()) := by
  obtain ⟨n, w, rv, g1, hM⟩ := F14_is x0 x1
  obtain ⟨md, rq, ex, sw, g2, hA, hD, _, _⟩ := F15_is hM rv x2
  have hS := made_small hM
  have a1 := hA.rl
  have a2 := hA.el
  have a3 := hA.sl
  have hwl : w.length = n := hM.len
  have hn := hM.pos
  have hn7 := hM.le
  obtain ⟨k, hk, hk2⟩ := F16_is x3 w.length (by omega) (by omega)
  have hk2' : F16 (x3, Int.ofNat w.length, ()) = some ((k : Int), ()) := hk2
  rw [F3_eq, F13_is, Option.bind_some]
  simp only [Bool.not_true, cond_false]
  rw [g1, Option.bind_some]
  simp only
  rw [g2, Option.bind_some]
  simp only
  rw [hk2', Option.bind_some]
  simp only
  rw [ge_zero, at_in hk]
  simp only [cond_true, Option.bind_some]
  have hm : w[k] ∈ w := List.getElem_mem hk
  revert hm
  generalize w[k] = m
  intro hm
  obtain ⟨hr0, hr6⟩ := rels_pos hM hm
  obtain ⟨j, hj, hj2⟩ := F16_is (IntKind.wrap IntKind.i64 (Int.tdiv x3 (Int.ofNat 7))) m.2.1.length (by omega) (by omega)
  have hj2' : F16 (IntKind.wrap IntKind.i64 (Int.tdiv x3 (Int.ofNat 7)), Int.ofNat m.2.1.length, ()) = some ((j : Int), ()) := hj2
  rw [hj2', Option.bind_some]
  simp only
  rw [ge_zero, at_in hj]
  simp only [cond_true, Option.bind_some]
  have hy : m.2.1[j] ∈ m.2.1 := List.getElem_mem hj
  revert hy
  generalize m.2.1[j] = y
  intro hy
  have hq := of_made hM hm hy y.2.2.1
  revert hq
  generalize hr : ((m.1, y.1, y.2.1, y.2.2.1, y.2.2.2.1, ()) : Req) = r
  intro hq
  have e1 : decide (0 + rq.length ≤ 2513169434916) = true := by simp; omega
  have e2 : decide (([] ++ rq).length + [r].length ≤ 2513169434916) = true := by simp; omega
  rw [e1, e2]
  simp only [cond_true]
  have hrq : ∀ x ∈ [] ++ rq ++ [r], Of w x := by
    intro x hx
    simp only [List.nil_append, List.mem_append, List.mem_singleton] at hx
    rcases hx with hx | hx
    · exact hA.rq x hx
    · rw [hx]; exact hq
  obtain ⟨rq', b1, b2, b3⟩ := F17_is ([] ++ rq ++ [r]) (fun x hx => (hrq x hx).1) (by simp; omega)
  have b2' : rq'.length ≤ 1000 := by simp at b2; omega
  have hrq' : ∀ x ∈ rq', Of w x := fun x hx => hrq x ((b3 x).1 hx)
  rw [b1, Option.bind_some]
  simp only
  obtain ⟨t, ht⟩ : Ans (F18 (md, rq', ex, sw, ())) := by
    refine F18_tot md rq' ex sw (mdl_short hM hD) (fun x hx => path_short (of_path hM (hrq' x hx))) (fun x hx => ⟨path_short (of_path hM (hA.ex x hx)), (hA.ex x hx).1⟩) (fun s hs => ?_) (by omega) (by omega) (by omega)
    obtain ⟨_, ⟨m1, hm1, e1⟩, m2, hm2, e2⟩ := hA.sw s hs
    rw [e1, e2]
    exact ⟨made_path hM hm1, made_path hM hm2⟩
  rw [ht, Option.bind_some]
  simp only
  cases t with
  | false => rfl
  | true =>
  simp only [Bool.not_true, cond_false]
  obtain ⟨e, l, g3, hl, h⟩ := list_small md rq ex sw w rv hS (by omega) (by omega) (by omega) fun r hr => (hA.rq r hr).1
  obtain ⟨e', l', g3', hl', h'⟩ := list_small md rq' ex sw w rv hS (by omega) (by omega) (by omega) fun r hr => (hrq' r hr).1
  rw [g3, Option.bind_some, g3', Option.bind_some]
  simp only
  rcases h with ⟨rfl, c1, out, rfl, c2, c3, c4⟩ | ⟨c1, _⟩
  · rcases h' with ⟨rfl, d1, out', rfl, d2, d3, d4⟩ | ⟨d1, _⟩
    · rw [show (!(0 : Int) == Int.ofNat 0) = false from rfl]
      simp only [cond_false]
      have hsub : ∀ r ∈ out, r ∈ out' := fun x hx => (d3 x).2 (reach_mono md rq ex sw w d1 (fun z hz => (b3 z).2 (by simp [hz])) x ((c3 x).1 hx))
      have hok' : ∀ r ∈ out', okR r = true := fun x hx => reach_ok md rq' ex sw w (small_ok ex sw w hS (by omega) (by omega)) (fun z hz => (hrq' z hz).1) x ((d3 x).1 hx)
      have key : loop B3_0 (builtOf sw out, builtOf sw out', Int.ofNat 0, ()) = some (.inr ()) := by
        rw [show (Int.ofNat 0 : Int) = ((0 : Nat) : Int) from rfl]
        refine loop_row (B := B3_0) (fun i => (builtOf sw out, builtOf sw out', (i : Int), ())) (builtOf sw out).length (e := .inr ()) (fun i hi => ?_) (by
          rw [B3_0_eq, lt_out]; rfl)
        obtain ⟨x, hx, hb, _, _⟩ := built_mem sw out (List.getElem_mem hi)
        rw [B3_0_eq, lt_in hi, ge_zero, at_in hi, wrap_next hi (by simp only [big] at hl; omega)]
        simp only [cond_true, Option.bind_some]
        rw [hb]
        obtain ⟨q, f1, f2, f3⟩ := found_up sw out' hl' hok' (hsub x hx)
        have hfx : F20 (builtOf sw out', (mkB sw x).1, ()) = _ := f2
        rw [hfx, Option.bind_some]
        simp only [Bool.not_true, cond_false]
        show (Option.bind (F21 (q.2.1, q.2.2.1, q.2.2.2.1, q.2.2.2.2.1, x.2.1, x.2.2.1, x.2.2.2.1, x.2.2.2.2.1, ())) _) = _
        rw [F21_is q.2 x.2 (okR_v f1) (okR_v (hok' x (hsub x hx))), Option.bind_some, f3]
        rfl
      rw [key, Option.bind_some]
      rfl
    · have : (!e' == Int.ofNat 0) = true := by
        rw [Bool.not_eq_true', ← Bool.not_eq_true]
        exact fun h => d1 (by simpa using h)
      rw [this]
      rfl
  · have : (!e == Int.ofNat 0) = true := by
      rw [Bool.not_eq_true', ← Bool.not_eq_true]
      exact fun h => c1 (by simpa using h)
    rw [this]
    rfl
end Go.Vx.Z
namespace Go.Proofs.YtmhlgndhcfdlbaaGreatDoor
open Go Go.Vx Go.ChangeShapes Go.WideShapes Go.ChangeAt Go.RowKit
open Go.ChangeMaps (open_string shut_string)
set_option linter.unusedVariables false
namespace buildMore
theorem own : ownKnob Tryz.prog.godebug = none := by kernel_rfl
theorem laidOut : laidOutB Tryz.prog = true := by kernel_rfl
set_option maxRecDepth 100000 in
theorem lifted (os : Os) (started : os.Started) (H : Type) (enc : TypeId × Value → H) :
    ReturnsInHanded {} Tryz.checked os 3 .any (fun w args => (Rows.buildMoreSpec.pre enc Tryz.prog Tryz.f3 Rows.buildMoreRow.domain false w args ∧ laidMetH Tryz.prog Rows.buildMoreRow.laid w) ∧ sizedMet enc Tryz.prog Tryz.f3 (OpenSpec.ofChange Rows.buildMoreSpec) false w args)
      (Rows.buildMoreSpec.post enc Tryz.prog Tryz.f3 false true false false) := by
  refine returnsInHanded_of_change_and (C := Tryz.checked) (X := fun w _ => laidMetH Tryz.prog Rows.buildMoreRow.laid w) (fun _ _ _ hh h => h.of_heap hh) own started (by kernel_rfl) Tryz.func3
    (ChangeSpec.witness_shaped (enc := enc) (C := Tryz.checked) (os := os) (X := fun w _ => laidMetH Tryz.prog Rows.buildMoreRow.laid w) false (World.laidAll Tryz.prog os Rows.buildMoreRow.laid) #[.int .i64 0, .slice none 0 0, .slice none 0 0, .int .i64 0] 8 (World.laidAll_os _ _ _)
      (World.shaped_of_ZipB (by kernel_rfl) (by kernel_rfl)) (by kernel_rfl) (by kernel_rfl) (by kernel_rfl)
      (by rw [MakeChecks.laidMetH_plain _ _ _ (by kernel_rfl)]; exact laidMet_laidAll _ (by kernel_rfl) (by kernel_rfl))) ?_
  intro W base args ds gs before hval0 hW hc hsz0 hL _
  have hsz : (DataW.weightsEach Tryz.prog (Tryz.f3.params.toList ++ Rows.buildMoreSpec.plain.varTypes Tryz.prog) (ds ++ gs)).all (· ≤ reachBytes) = true := hsz0
  have hval : ∀ (j : Nat) t v, Tryz.f3.params[j]? = some t → args[j]? = some v → Value.okWide Tryz.prog W .any base t v := hval0
  have hW' := hW
  obtain ⟨p, q, hA0, hV, rfl, hfz, hnd⟩ := hW
  have hA : DataW.TrodAll enc Tryz.prog W 0 (fun _ => true) true Tryz.f3.params.toList args.toList ds p := hA0
  rw [Tryz.params3] at hA hval hsz
  obtain ⟨v0, vs0, d0, ds0, p0, q0, hargs, rfl, rfl, h0, r0⟩ := trodAll_cons hA
  obtain ⟨v1, vs1, d1, ds1, p1, q1, rfl, rfl, rfl, h1, r1⟩ := trodAll_cons r0
  obtain ⟨v2, vs2, d2, ds2, p2, q2, rfl, rfl, rfl, h2, r2⟩ := trodAll_cons r1
  obtain ⟨v3, vs3, d3, ds3, p3, q3, rfl, rfl, rfl, h3, r3⟩ := trodAll_cons r2
  obtain ⟨rfl, rfl, rfl⟩ := trodAll_nil r3
  obtain rfl : args = #[v0, v1, v2, v3] := by cases args; simp_all
  obtain ⟨rfl, rfl⟩ := trodVars_none hV
  obtain ⟨a0, rfl, rfl, rfl, w0⟩ := open_int Tryz.underlying3 (hval 0 3 v0 rfl rfl) h0
  obtain ⟨a1, len1, cap1, rfl⟩ := okWide_slice Tryz.underlying22 (hval 1 22 v1 rfl rfl)
  have k1 := h1
  have lt1 : ∀ x ∈ p1, x.block < W.heap.size := by obtain ⟨m, hm⟩ := k1; exact DataW.trod_lt m _ _ _ hm
  obtain ⟨z1, w1⟩ : ∃ zs, IsRow .i64 W a1 len1 cap1 zs := by
    obtain ⟨fuel, hf⟩ := h1
    rcases open_ints Tryz.underlying22 Tryz.underlying3 (by kernel_rfl) hf with ⟨hcs, _⟩ | ⟨x, l, c, zs, hcs, _, hl, hm, hz, _, hcell, hwz⟩
    · simp [Value.cells] at hcs
      obtain ⟨rfl, rfl, rfl⟩ := hcs
      exact ⟨[], .inl ⟨rfl, rfl, rfl, rfl⟩⟩
    · simp [Value.cells] at hcs
      obtain ⟨rfl, rfl, rfl⟩ := hcs
      exact ⟨zs, .inr ⟨_, rfl, hl, hm, by simpa using hz, hcell, hwz⟩⟩
  have wf1 : ∀ x ∈ z1.take len1, (Lit.int .i64 x).wf = true := by
    rcases w1 with ⟨_, _, _, rfl⟩ | ⟨_, _, _, _, _, _, hwf⟩
    · simp
    · exact fun x hx => hwf x (List.mem_of_mem_take hx)
  obtain ⟨a2, len2, cap2, rfl⟩ := okWide_slice Tryz.underlying22 (hval 2 22 v2 rfl rfl)
  have k2 := h2
  have lt2 : ∀ x ∈ p2, x.block < W.heap.size := by obtain ⟨m, hm⟩ := k2; exact DataW.trod_lt m _ _ _ hm
  obtain ⟨z2, w2⟩ : ∃ zs, IsRow .i64 W a2 len2 cap2 zs := by
    obtain ⟨fuel, hf⟩ := h2
    rcases open_ints Tryz.underlying22 Tryz.underlying3 (by kernel_rfl) hf with ⟨hcs, _⟩ | ⟨x, l, c, zs, hcs, _, hl, hm, hz, _, hcell, hwz⟩
    · simp [Value.cells] at hcs
      obtain ⟨rfl, rfl, rfl⟩ := hcs
      exact ⟨[], .inl ⟨rfl, rfl, rfl, rfl⟩⟩
    · simp [Value.cells] at hcs
      obtain ⟨rfl, rfl, rfl⟩ := hcs
      exact ⟨zs, .inr ⟨_, rfl, hl, hm, by simpa using hz, hcell, hwz⟩⟩
  have wf2 : ∀ x ∈ z2.take len2, (Lit.int .i64 x).wf = true := by
    rcases w2 with ⟨_, _, _, rfl⟩ | ⟨_, _, _, _, _, _, hwf⟩
    · simp
    · exact fun x hx => hwf x (List.mem_of_mem_take hx)
  obtain ⟨a3, rfl, rfl, rfl, w3⟩ := open_int Tryz.underlying3 (hval 3 3 v3 rfl rfl) h3
  clear hA0 hval0 hsz0 hsz
  have hst : ∀ y, (RowS a1 z1.length y ∨ RowS a2 z2.length y) → y.spot = none ∧ ∃ v, W.cell? y = some v := by
    intro y hy
    rcases hy with hy | hy
    · exact isRow_st w1 hy
    · exact isRow_st w2 hy
  refine (law_calls (Go.Vx.Z.ok3) rfl (enters_of Tryz.func3 (by kernel_rfl) rfl) (S := fun y => RowS a1 z1.length y ∨ RowS a2 z2.length y) hst (a0, (z1.take len1), (z2.take len2), a3, ()) (Go.Vx.Z.pure_BuildMore a0 (z1.take len1) (z2.take len2) a3 w0 wf1 wf2 w3) rfl (fun i => ?_)).mono fun e W' ⟨he, bel⟩ => ?_
  · match i with
    | 0 => exact rfl
    | 1 => exact isRow_rep w1 (fun y hy => .inl hy)
    | 2 => exact isRow_rep w2 (fun y hy => .inr (hy))
    | 3 => exact rfl
    | i + 4 => trivial
  subst he
  exact ⟨_, rfl, _, _, _, [], _, [], hW', trodAll_mk1 (shut_bool Tryz.underlying4 _), (trodAll_cons_mk (shut_int Tryz.underlying3 w0) (trodAll_cons_mk (Below.trod laidOut (by kernel_rfl) (of_decide_eq_true (by kernel_rfl)) k1 bel lt1) (trodAll_cons_mk (Below.trod laidOut (by kernel_rfl) (of_decide_eq_true (by kernel_rfl)) k2 bel lt2) (trodAll_cons_mk (shut_int Tryz.underlying3 w3) trodAll_mk0)))), rfl, bel.frame _, fun h => by cases h⟩
theorem holds : Rows.BuildMoreSaid :=
  OpenClaim.holds_of_wide 3 Tryz.f3 rfl rfl rfl rfl rfl rfl rfl ⟨rfl, rfl, rfl, rfl, rfl⟩ rfl rfl rfl rfl rfl (by kernel_rfl) Tryz.func3 (by kernel_rfl)
    (of_decide_eq_true (by kernel_rfl)) (by unfold Func.isWrapper; first | (rw [if_pos (by decide +kernel)]; kernel_rfl) | (rw [if_neg (by decide +kernel)]; exact ⟨rfl, rfl⟩))
    (fun os started H enc _ => lifted os started H enc)
theorem card_holds : Rows.BuildMoreCardSaid :=
  Claim7.holds_tied_plain_at .later [] [.data, .pinned] true (true, "d582014b3baee50914b0e50363f0aa1c829743198b04de7ea16a202eaefeca98") false holds (fun _ h => by cases h) (by kernel_rfl) (fun _ h => by cases h) buildMore_row_tie rfl ⟨rfl, rfl⟩ (by kernel_rfl) rfl
    (fun f fn hf hfn => by
      obtain rfl : f = 3 := Option.some.inj ((show Tryz.prog.funcNamed "transhumance/transhumancelaw10.BuildMore" = some 3 by kernel_rfl).symm.trans hf) |>.symm
      obtain rfl : fn = Tryz.f3 := (Option.some.inj (Tryz.func3.symm.trans hfn)).symm
      exact ⟨by kernel_rfl, fun j t ht => by
        rw [Tryz.params3] at ht
        have hm : t ∈ [3, 22, 22, 3] := by simpa using Array.mem_of_getElem? ht
        have hall : ([3, 22, 22, 3].all fun u => !Tryz.prog.wantsStandIn u) = true := by kernel_rfl
        exact (show Tryz.prog.wantsStandIn t = false by simpa using List.all_eq_true.1 hall t hm)⟩)
    (by kernel_rfl)
end buildMore
end Go.Proofs.YtmhlgndhcfdlbaaGreatDoor
