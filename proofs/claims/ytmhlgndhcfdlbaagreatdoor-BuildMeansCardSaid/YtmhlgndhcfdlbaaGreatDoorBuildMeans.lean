/- What is built is closed: each Require, and what each that is asked for asks for, is built no lower, for every world that Make makes and every manifest that Ask makes of it, without what it excludes and swaps. No condition but the statement's own. -/
import Derived.Test.YtmhlgndhcfdlbaaGreatDoorV6
import Derived.Test.YtmhlgndhcfdlbaaGreatDoorV1
import Derived.Test.YtmhlgndhcfdlbaaGreatDoorRows
import Derived.Test.YtmhlgndhcfdlbaaGreatDoorTie
import Derived.Test.YtmhlgndhcfdlbaaGreatDoorCards
import Derived.Test.YtmhlgndhcfdlbaaGreatDoorV4
import Derived.WalkKit
import Derived.ProofKit
import Derived.OpenShut
import Derived.ShutString
import Derived.ChangeOld
import Derived.Below
import Derived.SizedLaws
import Derived.LaidMore
import Derived.Lay
import Derived.SevenTiedAt
import Derived.Stop.Joined
import Derived.KernelRfl
set_option linter.unusedSimpArgs false
/-! What is built is closed. -/
namespace Go.Vx.Z
open Go Go.Vx
set_option linter.unusedVariables false
set_option maxRecDepth 100000
section
variable (w : List Mod) (rv : List Rev) (md : ByteArray) (out : List Req) (hl : (builtOf [] out).length ≤ big) (hok : ∀ r ∈ out, okR r = true)
include hl hok
theorem means_asked (rq : List Req) (hn : rq.length ≤ 1000) (hrq : ∀ r ∈ rq, r ∈ out) :
    loop B8_0 (builtOf [] out, Int.ofNat 0, w, rv, md, rq, ()) = some (.inr (builtOf [] out, w, rv, md, rq, ())) := by
  rw [show (Int.ofNat 0 : Int) = ((0 : Nat) : Int) from rfl]
  refine loop_row (B := B8_0) (fun i => (builtOf [] out, (i : Int), w, rv, md, rq, ())) rq.length (e := .inr (builtOf [] out, w, rv, md, rq, ())) (fun i hi => ?_) (by
    rw [B8_0_eq, lt_out]; rfl)
  rw [B8_0_eq, lt_in hi, ge_zero, at_in hi, wrap_next hi (by omega)]
  simp only [cond_true, Option.bind_some]
  have hr := hrq _ (List.getElem_mem hi)
  obtain ⟨q, h1, h2, h3⟩ := found_up [] out hl hok hr
  rw [h2, Option.bind_some]
  simp only [Bool.not_true, cond_false]
  show (Option.bind (F21 (q.2.1, q.2.2.1, q.2.2.2.1, q.2.2.2.2.1, rq[i].2.1, rq[i].2.2.1, rq[i].2.2.2.1, rq[i].2.2.2.2.1, ())) _) = _
  rw [F21_is q.2 rq[i].2 (okR_v h1) (okR_v (hok _ hr)), Option.bind_some, h3]
  rfl
theorem means_asks (rq : List Req) (k : Nat) (a : List Req) (hn : a.length ≤ 1000) (ha : ∀ r ∈ a, r ∈ out) (l4 : List Blt) (x5 : Int) (x6 : ByteArray) (x7 : Bool) :
    loop B8_1 (builtOf [] out, (k : Int), a, Int.ofNat 0, l4, x5, x6, x7, w, rv, md, rq, ()) = some (.inr (builtOf [] out, (k : Int), l4, x5, x6, x7, w, rv, md, rq, ())) := by
  rw [show (Int.ofNat 0 : Int) = ((0 : Nat) : Int) from rfl]
  refine loop_row (B := B8_1) (fun i => (builtOf [] out, (k : Int), a, (i : Int), l4, x5, x6, x7, w, rv, md, rq, ())) a.length (e := .inr (builtOf [] out, (k : Int), l4, x5, x6, x7, w, rv, md, rq, ())) (fun i hi => ?_) (by
    rw [B8_1_eq, lt_out]; rfl)
  rw [B8_1_eq, lt_in hi, ge_zero, at_in hi, wrap_next hi (by omega)]
  simp only [cond_true, Option.bind_some]
  have hr := ha _ (List.getElem_mem hi)
  obtain ⟨q, h1, h2, h3⟩ := found_up [] out hl hok hr
  rw [h2, Option.bind_some]
  simp only [Bool.not_true, cond_false]
  show (Option.bind (F21 (q.2.1, q.2.2.1, q.2.2.2.1, q.2.2.2.2.1, a[i].2.1, a[i].2.2.1, a[i].2.2.2.1, a[i].2.2.2.2.1, ())) _) = _
  rw [F21_is q.2 a[i].2 (okR_v h1) (okR_v (hok _ hr)), Option.bind_some, h3]
  rfl
end
theorem pure_BuildMeans (x0 : Int) (x1 x2 : List Int) (h0 : (Lit.int .i64 x0).wf = true) (h1 : ∀ x ∈ x1, (Lit.int .i64 x).wf = true) (h2 : ∀ x ∈ x2, (Lit.int .i64 x).wf = true) : F8 (x0, x1, x2, ()) = some (true, ()) := by
  obtain ⟨n, w, rv, g1, hM⟩ := F14_is x0 x1
  obtain ⟨md, rq, ex, sw, g2, hA, _, hmd, _⟩ := F15_is hM rv x2
  have hS := made_small hM
  have a1 := hA.rl
  have hok0 := small_ok [] [] w hS (by simp) (by simp)
  obtain ⟨e, l, g3, hl, h⟩ := list_small md rq [] [] w rv hS (by simp) (by simp) (by omega) fun r hr => (hA.rq r hr).1
  rw [F8_eq, F13_is, Option.bind_some]
  simp only [Bool.not_true, cond_false]
  rw [g1, Option.bind_some]
  simp only
  rw [g2, Option.bind_some]
  simp only
  rw [g3, Option.bind_some]
  simp only
  rcases h with ⟨rfl, h4, out, rfl, h5, h6, h7⟩ | ⟨h4, rfl, h5⟩
  · have hok : ∀ r ∈ out, okR r = true := fun r hr => reach_ok md rq [] [] w hok0 (fun r hr => (hA.rq r hr).1) r ((h6 r).1 hr)
    have hin : ∀ r ∈ rq, r ∈ out := fun r hr => by
      have h8 := allOf_ok0 md [] [] w rq h4
      exact (h6 r).2 (.base ((h8.2 r).2 ⟨r, hr, said_plain md w r (h8.1 r hr) (hmd r hr)⟩))
    have hask : ∀ r ∈ out, ∀ a ∈ (asksOf md [] [] w r).2, a ∈ out := fun r hr a ha => (h6 a).2 (.step ((h6 r).1 hr) ha)
    rw [show (!(0 : Int) == Int.ofNat 0) = false from rfl, cond_false, means_asked w rv md out hl hok rq (by omega) hin, Option.bind_some]
    simp only [Sum.elim_inr]
    have key : loop B8_2 (builtOf [] out, Int.ofNat 0, w, rv, md, rq, ()) = some (.inr ()) := by
      rw [show (Int.ofNat 0 : Int) = ((0 : Nat) : Int) from rfl]
      refine loop_row (B := B8_2) (fun i => (builtOf [] out, (i : Int), w, rv, md, rq, ())) (builtOf [] out).length (e := .inr ()) (fun i hi => ?_) (by
        rw [B8_2_eq, lt_out]; rfl)
      obtain ⟨r, hr, hb, _, _⟩ := built_mem [] out (List.getElem_mem hi)
      have hto : (!ByteArray.toList (builtOf [] out)[i].2.2.2.2.2.1 == []) = false := by
        rw [hb, bs_toList]
        rfl
      have hasks : F26 (w, rv, md, rq, [], [], (builtOf [] out)[i].1, (builtOf [] out)[i].2.1, (builtOf [] out)[i].2.2.1, (builtOf [] out)[i].2.2.2.1, (builtOf [] out)[i].2.2.2.2.1, ()) = some ((asksOf md [] [] w r).2, (asksOf md [] [] w r).1, ()) := by
        rw [hb]
        exact F26_is w rv md rq [] [] hok0 r
      have hlen : (asksOf md [] [] w r).2.length ≤ 1000 := by
        have := asksOf_len md [] [] w 10 hS.reqs r
        omega
      have hm := fun x6 x7 => means_asks w rv md out hl hok rq i (asksOf md [] [] w r).2 hlen (hask r hr) (builtOf [] out) (i : Int) x6 x7
      have h70 := h7 r hr
      rw [B8_2_eq, lt_in hi, ge_zero, at_in hi]
      simp only [cond_true, Option.bind_some]
      rw [hto, hasks]
      simp only [cond_false, Option.bind_some]
      rw [h70, hm]
      simp only [Option.bind_some, Sum.elim_inr]
      rw [wrap_next hi (by simp only [big] at hl; omega)]
      cases i with
      | zero => rfl
      | succ j =>
        have e1 : decide (((j + 1 : Nat) : Int) > Int.ofNat 0) = true := by simp
        have e2 : IntKind.wrap IntKind.i64 (((j + 1 : Nat) : Int) - Int.ofNat 1) = (j : Int) := by
          rw [wrap64 (by simp only [big] at hl; simp) (by simp only [big] at hl; simp; omega)]
          simp
        have hj : j < (builtOf [] out).length := by omega
        rw [e1, e2, ge_zero, at_in hj]
        simp only [cond_true, Option.bind_some]
        rw [bytesLess_eq, bs_toList, bs_toList, built_rise [] out j hi]
        rfl
    rw [key, Option.bind_some]
    rfl
  · have he : e = 9 := by
      rcases h5 with h5 | ⟨r, _, h5⟩
      · rcases all_err md [] w rq with h | h
        · exact absurd (h5.symm.trans h) h4
        · exact h5.symm.trans h
      · rcases asks_err md [] w r with h | h
        · exact absurd (h5.symm.trans h) h4
        · exact h5.symm.trans h
    subst he
    rfl
end Go.Vx.Z
namespace Go.Proofs.YtmhlgndhcfdlbaaGreatDoor
open Go Go.Vx Go.ChangeShapes Go.WideShapes Go.ChangeAt Go.RowKit
open Go.ChangeMaps (open_string shut_string)
set_option linter.unusedVariables false
namespace buildMeans
theorem own : ownKnob Tryz.prog.godebug = none := by kernel_rfl
theorem laidOut : laidOutB Tryz.prog = true := by kernel_rfl
set_option maxRecDepth 100000 in
theorem lifted (os : Os) (started : os.Started) (H : Type) (enc : TypeId × Value → H) :
    ReturnsInHanded {} Tryz.checked os 8 .any (fun w args => (Rows.buildMeansSpec.pre enc Tryz.prog Tryz.f8 Rows.buildMeansRow.domain false w args ∧ laidMetH Tryz.prog Rows.buildMeansRow.laid w) ∧ sizedMet enc Tryz.prog Tryz.f8 (OpenSpec.ofChange Rows.buildMeansSpec) false w args)
      (Rows.buildMeansSpec.post enc Tryz.prog Tryz.f8 false true false false) := by
  refine returnsInHanded_of_change_and (C := Tryz.checked) (X := fun w _ => laidMetH Tryz.prog Rows.buildMeansRow.laid w) (fun _ _ _ hh h => h.of_heap hh) own started (by kernel_rfl) Tryz.func8
    (ChangeSpec.witness_shaped (enc := enc) (C := Tryz.checked) (os := os) (X := fun w _ => laidMetH Tryz.prog Rows.buildMeansRow.laid w) false (World.laidAll Tryz.prog os Rows.buildMeansRow.laid) #[.int .i64 0, .slice none 0 0, .slice none 0 0] 8 (World.laidAll_os _ _ _)
      (World.shaped_of_ZipB (by kernel_rfl) (by kernel_rfl)) (by kernel_rfl) (by kernel_rfl) (by kernel_rfl)
      (by rw [MakeChecks.laidMetH_plain _ _ _ (by kernel_rfl)]; exact laidMet_laidAll _ (by kernel_rfl) (by kernel_rfl))) ?_
  intro W base args ds gs before hval0 hW hc hsz0 hL _
  have hsz : (DataW.weightsEach Tryz.prog (Tryz.f8.params.toList ++ Rows.buildMeansSpec.plain.varTypes Tryz.prog) (ds ++ gs)).all (· ≤ reachBytes) = true := hsz0
  have hval : ∀ (j : Nat) t v, Tryz.f8.params[j]? = some t → args[j]? = some v → Value.okWide Tryz.prog W .any base t v := hval0
  have hW' := hW
  obtain ⟨p, q, hA0, hV, rfl, hfz, hnd⟩ := hW
  have hA : DataW.TrodAll enc Tryz.prog W 0 (fun _ => true) true Tryz.f8.params.toList args.toList ds p := hA0
  rw [Tryz.params8] at hA hval hsz
  obtain ⟨v0, vs0, d0, ds0, p0, q0, hargs, rfl, rfl, h0, r0⟩ := trodAll_cons hA
  obtain ⟨v1, vs1, d1, ds1, p1, q1, rfl, rfl, rfl, h1, r1⟩ := trodAll_cons r0
  obtain ⟨v2, vs2, d2, ds2, p2, q2, rfl, rfl, rfl, h2, r2⟩ := trodAll_cons r1
  obtain ⟨rfl, rfl, rfl⟩ := trodAll_nil r2
  obtain rfl : args = #[v0, v1, v2] := by cases args; simp_all
  obtain ⟨rfl, rfl⟩ := trodVars_none hV
  obtain ⟨a0, rfl, rfl, rfl, w0⟩ := open_int Tryz.underlying3 (hval 0 3 v0 rfl rfl) h0
  obtain ⟨a1, len1, cap1, rfl⟩ := okWide_slice Tryz.underlying22 (hval 1 22 v1 rfl rfl)
  have k1 := h1
  have lt1 : ∀ x ∈ p1, x.block < W.heap.size := by obtain ⟨m, hm⟩ := k1; exact DataW.trod_lt m _ _ _ hm
  obtain ⟨z1, w1⟩ : ∃ zs, IsRow .i64 W a1 len1 cap1 zs := by
    obtain ⟨fuel, hf⟩ := h1
    rcases open_ints Tryz.underlying22 Tryz.underlying3 (by kernel_rfl) hf with ⟨hcs, _⟩ | ⟨x, l, c, zs, hcs, _, hl, hm, hz, _, hcell, hwz⟩
    · simp [Value.cells] at hcs
      obtain ⟨rfl, rfl, rfl⟩ := hcs
      exact ⟨[], .inl ⟨rfl, rfl, rfl, rfl⟩⟩
    · simp [Value.cells] at hcs
      obtain ⟨rfl, rfl, rfl⟩ := hcs
      exact ⟨zs, .inr ⟨_, rfl, hl, hm, by simpa using hz, hcell, hwz⟩⟩
  have wf1 : ∀ x ∈ z1.take len1, (Lit.int .i64 x).wf = true := by
    rcases w1 with ⟨_, _, _, rfl⟩ | ⟨_, _, _, _, _, _, hwf⟩
    · simp
    · exact fun x hx => hwf x (List.mem_of_mem_take hx)
  obtain ⟨a2, len2, cap2, rfl⟩ := okWide_slice Tryz.underlying22 (hval 2 22 v2 rfl rfl)
  have k2 := h2
  have lt2 : ∀ x ∈ p2, x.block < W.heap.size := by obtain ⟨m, hm⟩ := k2; exact DataW.trod_lt m _ _ _ hm
  obtain ⟨z2, w2⟩ : ∃ zs, IsRow .i64 W a2 len2 cap2 zs := by
    obtain ⟨fuel, hf⟩ := h2
    rcases open_ints Tryz.underlying22 Tryz.underlying3 (by kernel_rfl) hf with ⟨hcs, _⟩ | ⟨x, l, c, zs, hcs, _, hl, hm, hz, _, hcell, hwz⟩
    · simp [Value.cells] at hcs
      obtain ⟨rfl, rfl, rfl⟩ := hcs
      exact ⟨[], .inl ⟨rfl, rfl, rfl, rfl⟩⟩
    · simp [Value.cells] at hcs
      obtain ⟨rfl, rfl, rfl⟩ := hcs
      exact ⟨zs, .inr ⟨_, rfl, hl, hm, by simpa using hz, hcell, hwz⟩⟩
  have wf2 : ∀ x ∈ z2.take len2, (Lit.int .i64 x).wf = true := by
    rcases w2 with ⟨_, _, _, rfl⟩ | ⟨_, _, _, _, _, _, hwf⟩
    · simp
    · exact fun x hx => hwf x (List.mem_of_mem_take hx)
  clear hA0 hval0 hsz0 hsz
  have hst : ∀ y, (RowS a1 z1.length y ∨ RowS a2 z2.length y) → y.spot = none ∧ ∃ v, W.cell? y = some v := by
    intro y hy
    rcases hy with hy | hy
    · exact isRow_st w1 hy
    · exact isRow_st w2 hy
  refine (law_calls (Go.Vx.Z.ok8) rfl (enters_of Tryz.func8 (by kernel_rfl) rfl) (S := fun y => RowS a1 z1.length y ∨ RowS a2 z2.length y) hst (a0, (z1.take len1), (z2.take len2), ()) (Go.Vx.Z.pure_BuildMeans a0 (z1.take len1) (z2.take len2) w0 wf1 wf2) rfl (fun i => ?_)).mono fun e W' ⟨he, bel⟩ => ?_
  · match i with
    | 0 => exact rfl
    | 1 => exact isRow_rep w1 (fun y hy => .inl hy)
    | 2 => exact isRow_rep w2 (fun y hy => .inr (hy))
    | i + 3 => trivial
  subst he
  exact ⟨_, rfl, _, _, _, [], _, [], hW', trodAll_mk1 (shut_bool Tryz.underlying4 _), (trodAll_cons_mk (shut_int Tryz.underlying3 w0) (trodAll_cons_mk (Below.trod laidOut (by kernel_rfl) (of_decide_eq_true (by kernel_rfl)) k1 bel lt1) (trodAll_cons_mk (Below.trod laidOut (by kernel_rfl) (of_decide_eq_true (by kernel_rfl)) k2 bel lt2) trodAll_mk0))), rfl, bel.frame _, fun h => by cases h⟩
theorem holds : Rows.BuildMeansSaid :=
  OpenClaim.holds_of_wide 8 Tryz.f8 rfl rfl rfl rfl rfl rfl rfl ⟨rfl, rfl, rfl, rfl, rfl⟩ rfl rfl rfl rfl rfl (by kernel_rfl) Tryz.func8 (by kernel_rfl)
    (of_decide_eq_true (by kernel_rfl)) (by unfold Func.isWrapper; first | (rw [if_pos (by decide +kernel)]; kernel_rfl) | (rw [if_neg (by decide +kernel)]; exact ⟨rfl, rfl⟩))
    (fun os started H enc _ => lifted os started H enc)
theorem card_holds : Rows.BuildMeansCardSaid :=
  Claim7.holds_tied_plain_at .later [] [.data, .pinned] true (true, "d582014b3baee50914b0e50363f0aa1c829743198b04de7ea16a202eaefeca98") false holds (fun _ h => by cases h) (by kernel_rfl) (fun _ h => by cases h) buildMeans_row_tie rfl ⟨rfl, rfl⟩ (by kernel_rfl) rfl
    (fun f fn hf hfn => by
      obtain rfl : f = 8 := Option.some.inj ((show Tryz.prog.funcNamed "transhumance/transhumancelaw10.BuildMeans" = some 8 by kernel_rfl).symm.trans hf) |>.symm
      obtain rfl : fn = Tryz.f8 := (Option.some.inj (Tryz.func8.symm.trans hfn)).symm
      exact ⟨by kernel_rfl, fun j t ht => by
        rw [Tryz.params8] at ht
        have hm : t ∈ [3, 22, 22] := by simpa using Array.mem_of_getElem? ht
        have hall : ([3, 22, 22].all fun u => !Tryz.prog.wantsStandIn u) = true := by kernel_rfl
        exact (show Tryz.prog.wantsStandIn t = false by simpa using List.all_eq_true.1 hall t hm)⟩)
    (by kernel_rfl)
end buildMeans
end Go.Proofs.YtmhlgndhcfdlbaaGreatDoor
