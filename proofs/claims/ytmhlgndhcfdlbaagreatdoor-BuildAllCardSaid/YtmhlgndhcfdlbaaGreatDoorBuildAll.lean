/- What is built, what each asks for, why, is the document's: for every world that Make makes, every manifest that Ask makes of it, every module. No condition but the statement's own. -/
import Derived.Test.YtmhlgndhcfdlbaaGreatDoorV5
import Derived.Test.YtmhlgndhcfdlbaaGreatDoorV1
import Derived.Test.YtmhlgndhcfdlbaaGreatDoorRows
import Derived.Test.YtmhlgndhcfdlbaaGreatDoorTie
import Derived.Test.YtmhlgndhcfdlbaaGreatDoorCards
import Derived.Test.YtmhlgndhcfdlbaaGreatDoorV4
import Derived.WalkKit
import Derived.ProofKit
import Derived.OpenShut
import Derived.ShutString
import Derived.ChangeOld
import Derived.Below
import Derived.SizedLaws
import Derived.LaidMore
import Derived.Lay
import Derived.SevenTiedAt
import Derived.Stop.Joined
import Derived.KernelRfl
set_option linter.unusedSimpArgs false
/-! What is built, what each asks for, why, is the document's. -/
namespace Go.Vx.Z
open Go Go.Vx
set_option linter.unusedVariables false
set_option maxRecDepth 100000
theorem pure_BuildAll (x0 : Int) (x1 x2 : List Int) (x3 : Int) (h0 : (Lit.int .i64 x0).wf = true) (h1 : ∀ x ∈ x1, (Lit.int .i64 x).wf = true) (h2 : ∀ x ∈ x2, (Lit.int .i64 x).wf = true) (h3 : (Lit.int .i64 x3).wf = true) : F11 (x0, x1, x2, x3, ()) = some (true, ()) := by
  obtain ⟨n, w, rv, g1, hM⟩ := F14_is x0 x1
  obtain ⟨md, rq, ex, sw, g2, hA, hD, hN, hmd, hasc⟩ := F15_is hM rv x2
  have hS := made_small hM
  have a1 := hA.rl
  have a2 := hA.el
  have a3 := hA.sl
  have hwl : w.length = n := hM.len
  have hn := hM.pos
  have hn7 := hM.le
  have hrq : ∀ r ∈ rq, okR r = true := fun r hr => (hA.rq r hr).1
  have hokS := small_ok ex sw w hS (by omega) (by omega)
  have hokD := made_okD hM (ex := ex) (by omega) (by omega) hmd
  obtain ⟨e, l, g3, hl, h⟩ := list_small md rq ex sw w rv hS (by omega) (by omega) (by omega) hrq
  have g4 := F22_is md rq ex sw w rv hS hokD (by omega) (by omega) (by omega) hrq hasc l e g3
  obtain ⟨k, hk, hk2⟩ := F16_is x3 w.length (by omega) (by omega)
  have hk2' : F16 (x3, Int.ofNat w.length, ()) = some ((k : Int), ()) := hk2
  rw [F11_eq, F13_is, Option.bind_some]
  simp only [Bool.not_true, cond_false]
  rw [g1, Option.bind_some]
  simp only
  rw [g2, Option.bind_some]
  simp only
  rw [g3, Option.bind_some, g4, Option.bind_some]
  simp only [beq_self_eq_true, Bool.not_true, cond_false]
  rw [F23_self l hl, Option.bind_some]
  simp only [Bool.not_true, cond_false]
  rw [hk2', Option.bind_some]
  simp only
  rw [ge_zero, at_in hk]
  simp only [cond_true, Option.bind_some]
  have hm : w[k] ∈ w := List.getElem_mem hk
  revert hm
  generalize w[k] = m
  intro hm
  obtain ⟨hr0, hr6⟩ := rels_pos hM hm
  obtain ⟨j, hj, hj2⟩ := F16_is (IntKind.wrap IntKind.i64 (Int.tdiv x3 (Int.ofNat 7))) m.2.1.length (by omega) (by omega)
  have hj2' : F16 (IntKind.wrap IntKind.i64 (Int.tdiv x3 (Int.ofNat 7)), Int.ofNat m.2.1.length, ()) = some ((j : Int), ()) := hj2
  rw [hj2', Option.bind_some]
  simp only
  rw [ge_zero, at_in hj]
  simp only [cond_true, Option.bind_some]
  generalize m.2.1[j] = z
  obtain ⟨t, ht, ht2⟩ := F16_is x3 9 (by omega) (by omega)
  have ht2' : F16 (x3, Int.ofNat 9, ()) = some ((t : Int), ()) := ht2
  rw [ht2', Option.bind_some]
  simp only
  have hask : ∀ (C : Int) (g : (List Req × Int × Unit) → Option (Bool × Unit)), g ((asksOf md ex sw w (m.1, z.1, z.2.1, C, z.2.2.2.1, ())).2, (asksOf md ex sw w (m.1, z.1, z.2.1, C, z.2.2.2.1, ())).1, ()) = some (true, ()) → Option.bind (F26 (w, rv, md, rq, ex, sw, m.1, z.1, z.2.1, C, z.2.2.2.1, ())) g = some (true, ()) := by
    intro C g hg
    have := F26_is w rv md rq ex sw hokS (m.1, z.1, z.2.1, C, z.2.2.2.1, ())
    simp only at this
    rw [this, Option.bind_some]
    exact hg
  have hask2 : ∀ (C : Int), F30 (w, rv, md, rq, ex, sw, m.1, z.1, z.2.1, C, z.2.2.2.1, ()) = some ((asksOf md ex sw w (m.1, z.1, z.2.1, C, z.2.2.2.1, ())).2, (asksOf md ex sw w (m.1, z.1, z.2.1, C, z.2.2.2.1, ())).1, ()) := fun C => F30_is md rq ex sw w rv hokD (m.1, z.1, z.2.1, C, z.2.2.2.1, ())
  have hal : ∀ r, (asksOf md ex sw w r).2.length ≤ 1000000 := fun r => by
    have := asksOf_len md ex sw w 10 hS.reqs r
    omega
  obtain ⟨r, b, f29, f31, hrl⟩ : ∃ (r : List Req) (b : Bool), F29 (w, rv, md, rq, ex, sw, m.1, ()) = some (r, b, ()) ∧ F31 (w, rv, md, rq, ex, sw, m.1, ()) = some (r, b, ()) ∧ r.length ≤ 1000000 := by
    rcases why_is hM rv md rq ex sw (by omega) (by omega) (by omega) hmd hrq hasc l e g3 m.1 with ⟨w29, w31, _⟩ | ⟨o, r, y, K, _, _, _, _, _, _, _, w29, w31, hK, hP, _, _, hol, _⟩
    · exact ⟨[], false, w29, w31, by simp⟩
    · exact ⟨r, true, w29, w31, by have := way_short hP hol; omega⟩
  refine go_bif (P := fun o => o = some (true, ())) (fun _ => ?_) (fun _ => ?_)
  all_goals
    refine hask _ _ ?_
    simp only
    rw [hask2, Option.bind_some, f29, Option.bind_some, f31, Option.bind_some]
    simp only [beq_self_eq_true, cond_true]
    rw [F32_self _ (hal _), Option.bind_some, F32_self _ hrl]
    rfl
end Go.Vx.Z
namespace Go.Proofs.YtmhlgndhcfdlbaaGreatDoor
open Go Go.Vx Go.ChangeShapes Go.WideShapes Go.ChangeAt Go.RowKit
open Go.ChangeMaps (open_string shut_string)
set_option linter.unusedVariables false
namespace buildAll
theorem own : ownKnob Tryz.prog.godebug = none := by kernel_rfl
theorem laidOut : laidOutB Tryz.prog = true := by kernel_rfl
set_option maxRecDepth 100000 in
theorem lifted (os : Os) (started : os.Started) (H : Type) (enc : TypeId × Value → H) :
    ReturnsInHanded {} Tryz.checked os 11 .any (fun w args => (Rows.buildAllSpec.pre enc Tryz.prog Tryz.f11 Rows.buildAllRow.domain false w args ∧ laidMetH Tryz.prog Rows.buildAllRow.laid w) ∧ sizedMet enc Tryz.prog Tryz.f11 (OpenSpec.ofChange Rows.buildAllSpec) false w args)
      (Rows.buildAllSpec.post enc Tryz.prog Tryz.f11 false true false false) := by
  refine returnsInHanded_of_change_and (C := Tryz.checked) (X := fun w _ => laidMetH Tryz.prog Rows.buildAllRow.laid w) (fun _ _ _ hh h => h.of_heap hh) own started (by kernel_rfl) Tryz.func11
    (ChangeSpec.witness_shaped (enc := enc) (C := Tryz.checked) (os := os) (X := fun w _ => laidMetH Tryz.prog Rows.buildAllRow.laid w) false (World.laidAll Tryz.prog os Rows.buildAllRow.laid) #[.int .i64 0, .slice none 0 0, .slice none 0 0, .int .i64 0] 8 (World.laidAll_os _ _ _)
      (World.shaped_of_ZipB (by kernel_rfl) (by kernel_rfl)) (by kernel_rfl) (by kernel_rfl) (by kernel_rfl)
      (by rw [MakeChecks.laidMetH_plain _ _ _ (by kernel_rfl)]; exact laidMet_laidAll _ (by kernel_rfl) (by kernel_rfl))) ?_
  intro W base args ds gs before hval0 hW hc hsz0 hL _
  have hsz : (DataW.weightsEach Tryz.prog (Tryz.f11.params.toList ++ Rows.buildAllSpec.plain.varTypes Tryz.prog) (ds ++ gs)).all (· ≤ reachBytes) = true := hsz0
  have hval : ∀ (j : Nat) t v, Tryz.f11.params[j]? = some t → args[j]? = some v → Value.okWide Tryz.prog W .any base t v := hval0
  have hW' := hW
  obtain ⟨p, q, hA0, hV, rfl, hfz, hnd⟩ := hW
  have hA : DataW.TrodAll enc Tryz.prog W 0 (fun _ => true) true Tryz.f11.params.toList args.toList ds p := hA0
  rw [Tryz.params11] at hA hval hsz
  obtain ⟨v0, vs0, d0, ds0, p0, q0, hargs, rfl, rfl, h0, r0⟩ := trodAll_cons hA
  obtain ⟨v1, vs1, d1, ds1, p1, q1, rfl, rfl, rfl, h1, r1⟩ := trodAll_cons r0
  obtain ⟨v2, vs2, d2, ds2, p2, q2, rfl, rfl, rfl, h2, r2⟩ := trodAll_cons r1
  obtain ⟨v3, vs3, d3, ds3, p3, q3, rfl, rfl, rfl, h3, r3⟩ := trodAll_cons r2
  obtain ⟨rfl, rfl, rfl⟩ := trodAll_nil r3
  obtain rfl : args = #[v0, v1, v2, v3] := by cases args; simp_all
  obtain ⟨rfl, rfl⟩ := trodVars_none hV
  obtain ⟨a0, rfl, rfl, rfl, w0⟩ := open_int Tryz.underlying3 (hval 0 3 v0 rfl rfl) h0
  obtain ⟨a1, len1, cap1, rfl⟩ := okWide_slice Tryz.underlying22 (hval 1 22 v1 rfl rfl)
  have k1 := h1
  have lt1 : ∀ x ∈ p1, x.block < W.heap.size := by obtain ⟨m, hm⟩ := k1; exact DataW.trod_lt m _ _ _ hm
  obtain ⟨z1, w1⟩ : ∃ zs, IsRow .i64 W a1 len1 cap1 zs := by
    obtain ⟨fuel, hf⟩ := h1
    rcases open_ints Tryz.underlying22 Tryz.underlying3 (by kernel_rfl) hf with ⟨hcs, _⟩ | ⟨x, l, c, zs, hcs, _, hl, hm, hz, _, hcell, hwz⟩
    · simp [Value.cells] at hcs
      obtain ⟨rfl, rfl, rfl⟩ := hcs
      exact ⟨[], .inl ⟨rfl, rfl, rfl, rfl⟩⟩
    · simp [Value.cells] at hcs
      obtain ⟨rfl, rfl, rfl⟩ := hcs
      exact ⟨zs, .inr ⟨_, rfl, hl, hm, by simpa using hz, hcell, hwz⟩⟩
  have wf1 : ∀ x ∈ z1.take len1, (Lit.int .i64 x).wf = true := by
    rcases w1 with ⟨_, _, _, rfl⟩ | ⟨_, _, _, _, _, _, hwf⟩
    · simp
    · exact fun x hx => hwf x (List.mem_of_mem_take hx)
  obtain ⟨a2, len2, cap2, rfl⟩ := okWide_slice Tryz.underlying22 (hval 2 22 v2 rfl rfl)
  have k2 := h2
  have lt2 : ∀ x ∈ p2, x.block < W.heap.size := by obtain ⟨m, hm⟩ := k2; exact DataW.trod_lt m _ _ _ hm
  obtain ⟨z2, w2⟩ : ∃ zs, IsRow .i64 W a2 len2 cap2 zs := by
    obtain ⟨fuel, hf⟩ := h2
    rcases open_ints Tryz.underlying22 Tryz.underlying3 (by kernel_rfl) hf with ⟨hcs, _⟩ | ⟨x, l, c, zs, hcs, _, hl, hm, hz, _, hcell, hwz⟩
    · simp [Value.cells] at hcs
      obtain ⟨rfl, rfl, rfl⟩ := hcs
      exact ⟨[], .inl ⟨rfl, rfl, rfl, rfl⟩⟩
    · simp [Value.cells] at hcs
      obtain ⟨rfl, rfl, rfl⟩ := hcs
      exact ⟨zs, .inr ⟨_, rfl, hl, hm, by simpa using hz, hcell, hwz⟩⟩
  have wf2 : ∀ x ∈ z2.take len2, (Lit.int .i64 x).wf = true := by
    rcases w2 with ⟨_, _, _, rfl⟩ | ⟨_, _, _, _, _, _, hwf⟩
    · simp
    · exact fun x hx => hwf x (List.mem_of_mem_take hx)
  obtain ⟨a3, rfl, rfl, rfl, w3⟩ := open_int Tryz.underlying3 (hval 3 3 v3 rfl rfl) h3
  clear hA0 hval0 hsz0 hsz
  have hst : ∀ y, (RowS a1 z1.length y ∨ RowS a2 z2.length y) → y.spot = none ∧ ∃ v, W.cell? y = some v := by
    intro y hy
    rcases hy with hy | hy
    · exact isRow_st w1 hy
    · exact isRow_st w2 hy
  refine (law_calls (Go.Vx.Z.ok11) rfl (enters_of Tryz.func11 (by kernel_rfl) rfl) (S := fun y => RowS a1 z1.length y ∨ RowS a2 z2.length y) hst (a0, (z1.take len1), (z2.take len2), a3, ()) (Go.Vx.Z.pure_BuildAll a0 (z1.take len1) (z2.take len2) a3 w0 wf1 wf2 w3) rfl (fun i => ?_)).mono fun e W' ⟨he, bel⟩ => ?_
  · match i with
    | 0 => exact rfl
    | 1 => exact isRow_rep w1 (fun y hy => .inl hy)
    | 2 => exact isRow_rep w2 (fun y hy => .inr (hy))
    | 3 => exact rfl
    | i + 4 => trivial
  subst he
  exact ⟨_, rfl, _, _, _, [], _, [], hW', trodAll_mk1 (shut_bool Tryz.underlying4 _), (trodAll_cons_mk (shut_int Tryz.underlying3 w0) (trodAll_cons_mk (Below.trod laidOut (by kernel_rfl) (of_decide_eq_true (by kernel_rfl)) k1 bel lt1) (trodAll_cons_mk (Below.trod laidOut (by kernel_rfl) (of_decide_eq_true (by kernel_rfl)) k2 bel lt2) (trodAll_cons_mk (shut_int Tryz.underlying3 w3) trodAll_mk0)))), rfl, bel.frame _, fun h => by cases h⟩
theorem holds : Rows.BuildAllSaid :=
  OpenClaim.holds_of_wide 11 Tryz.f11 rfl rfl rfl rfl rfl rfl rfl ⟨rfl, rfl, rfl, rfl, rfl⟩ rfl rfl rfl rfl rfl (by kernel_rfl) Tryz.func11 (by kernel_rfl)
    (of_decide_eq_true (by kernel_rfl)) (by unfold Func.isWrapper; first | (rw [if_pos (by decide +kernel)]; kernel_rfl) | (rw [if_neg (by decide +kernel)]; exact ⟨rfl, rfl⟩))
    (fun os started H enc _ => lifted os started H enc)
theorem card_holds : Rows.BuildAllCardSaid :=
  Claim7.holds_tied_plain_at .later [] [.data, .pinned] true (true, "d582014b3baee50914b0e50363f0aa1c829743198b04de7ea16a202eaefeca98") false holds (fun _ h => by cases h) (by kernel_rfl) (fun _ h => by cases h) buildAll_row_tie rfl ⟨rfl, rfl⟩ (by kernel_rfl) rfl
    (fun f fn hf hfn => by
      obtain rfl : f = 11 := Option.some.inj ((show Tryz.prog.funcNamed "transhumance/transhumancelaw10.BuildAll" = some 11 by kernel_rfl).symm.trans hf) |>.symm
      obtain rfl : fn = Tryz.f11 := (Option.some.inj (Tryz.func11.symm.trans hfn)).symm
      exact ⟨by kernel_rfl, fun j t ht => by
        rw [Tryz.params11] at ht
        have hm : t ∈ [3, 22, 22, 3] := by simpa using Array.mem_of_getElem? ht
        have hall : ([3, 22, 22, 3].all fun u => !Tryz.prog.wantsStandIn u) = true := by kernel_rfl
        exact (show Tryz.prog.wantsStandIn t = false by simpa using List.all_eq_true.1 hall t hm)⟩)
    (by kernel_rfl)
end buildAll
end Go.Proofs.YtmhlgndhcfdlbaaGreatDoor
