/- What two manifests build: one that asks for what is built builds the same, for every world that Make makes and every manifest that Ask makes of it. No condition but the statement's own. -/
import Derived.Test.YtmhlgndhcfdlbaaGreatDoorV5
import Derived.Test.YtmhlgndhcfdlbaaGreatDoorV1
import Derived.Test.YtmhlgndhcfdlbaaGreatDoorRows
import Derived.Test.YtmhlgndhcfdlbaaGreatDoorTie
import Derived.Test.YtmhlgndhcfdlbaaGreatDoorCards
import Derived.Test.YtmhlgndhcfdlbaaGreatDoorV4
import Derived.WalkKit
import Derived.ProofKit
import Derived.OpenShut
import Derived.ShutString
import Derived.ChangeOld
import Derived.Below
import Derived.SizedLaws
import Derived.LaidMore
import Derived.Lay
import Derived.SevenTiedAt
import Derived.Stop.Joined
import Derived.KernelRfl
set_option linter.unusedSimpArgs false
/-! What asks for what is built builds the same. -/
namespace Go.Vx.Z
open Go Go.Vx
set_option linter.unusedVariables false
set_option maxRecDepth 100000
theorem both_loop (l : List Blt) (hl : l.length ≤ big) (w : List Mod) (rv : List Rev) (md : ByteArray) : loop B6_0 (l, Int.ofNat 0, w, rv, md, [], ()) = some (l, w, rv, md, l.map (fun y => (y.1, y.2.1, y.2.2.1, y.2.2.2.1, y.2.2.2.2.1, ())), ()) := by
  have h := loop_fold (B := B6_0) l (fun i (b : List Req) => (l, (i : Int), w, rv, md, b, ())) (fun b y => b ++ [(y.1, y.2.1, y.2.2.1, y.2.2.2.1, y.2.2.2.2.1, ())]) (fun b => (l, w, rv, md, b, ())) [] (fun i b => b.length = i) rfl (by
    intro i hi b hb
    have e : ∀ z : Req, decide (b.length + [z].length ≤ 2513169434916) = true := by
      intro z; rw [decide_eq_true_eq]; simp only [big] at hl; simp only [List.length_cons, List.length_nil]; omega
    rw [B6_0_eq, lt_in hi, ge_zero, at_in hi, wrap_next hi (by simp only [big] at hl; omega)]
    simp only [cond_true, Option.bind_some]
    rw [e]
    exact ⟨rfl, by simp [hb]⟩) (by
    intro b hb
    rw [B6_0_eq, lt_out]; rfl)
  have key : ∀ (f : Blt → Req) (l : List Blt) (b : List Req), l.foldl (fun b y => b ++ [f y]) b = b ++ l.map f := by
    intro f l
    induction l with
    | nil => intro b; simp
    | cons y l ih => intro b; rw [List.foldl_cons, ih, List.map_cons]; simp
  rw [key (fun y => (y.1, y.2.1, y.2.2.1, y.2.2.2.1, y.2.2.2.2.1, ()))] at h
  exact h
theorem pure_BuildBoth (x0 : Int) (x1 x2 : List Int) (h0 : (Lit.int .i64 x0).wf = true) (h1 : ∀ x ∈ x1, (Lit.int .i64 x).wf = true) (h2 : ∀ x ∈ x2, (Lit.int .i64 x).wf = true) : F6 (x0, x1, x2, ()) = some (true, ()) := by
  obtain ⟨n, w, rv, g1, hM⟩ := F14_is x0 x1
  obtain ⟨md, rq, ex, sw, g2, hA, _, _, _⟩ := F15_is hM rv x2
  have hS := made_small hM
  have a1 := hA.rl
  obtain ⟨e, l, g3, hl, h⟩ := list_small md rq [] [] w rv hS (by simp) (by simp) (by omega) fun r hr => (hA.rq r hr).1
  rw [F6_eq, F13_is, Option.bind_some]
  simp only [Bool.not_true, cond_false]
  rw [g1, Option.bind_some]
  simp only
  rw [g2, Option.bind_some]
  simp only
  rw [g3, Option.bind_some]
  simp only
  rcases h with ⟨rfl, h4, out, rfl, h5, h6, h7⟩ | ⟨h4, rfl, h5⟩
  · rw [show (!(0 : Int) == Int.ofNat 0) = false from rfl, cond_false, both_loop _ hl, Option.bind_some]
    simp only
    rw [mapB_tops]
    have hok : ∀ r ∈ out, okR r = true := fun r hr => reach_ok md rq [] [] w (small_ok [] [] w hS (by simp) (by simp)) (fun r hr => (hA.rq r hr).1) r ((h6 r).1 hr)
    have hne : ∀ r ∈ out, r.1 ≠ md := fun r hr => reach_plain r ((h6 r).1 hr)
    have htop : ∀ r ∈ topsOf out, r ∈ out := fun r hr => ((tops_iff out r).1 hr).1
    have hsaid : ∀ r ∈ topsOf out, saidOf md [] [] w r = (0, some r) := fun r hr => asks_plain md w (h7 r (htop r hr)) (hne r (htop r hr))
    have hall : (allOf md [] [] w (topsOf out)).1 = 0 := allOf_zero md [] [] w _ fun r hr => by rw [hsaid r hr]
    have hin : ∀ r, Reach md [] [] w (topsOf out) r → r ∈ out := by
      intro r hr
      induction hr with
      | base hr =>
        obtain ⟨r', h8, h9⟩ := allOf_mem md [] [] w _ _ hr
        rw [hsaid r' h8] at h9
        injection h9 with h9
        exact h9 ▸ htop r' h8
      | step _ ha ih => exact (h6 _).2 (.step ((h6 _).1 ih) ha)
    have hlen : (topsOf out).length ≤ 1000 := by
      have := tops_length out pathsL fun r hr => reach_path hM (fun r hr => of_path hM (hA.rq r hr)) r ((h6 r).1 hr)
      have h7 : pathsL.length = 7 := rfl
      omega
    obtain ⟨e', l', g4, hl', h8⟩ := list_small md (topsOf out) [] [] w rv hS (by simp) (by simp) hlen fun r hr => hok r (htop r hr)
    rw [g4, Option.bind_some]
    simp only
    rcases h8 with ⟨rfl, h9, out', rfl, h10, h11, h12⟩ | ⟨h9, rfl, h10⟩
    · rw [show ((0 : Int) == Int.ofNat 0) = true from rfl, cond_true]
      have : builtOf [] out' = builtOf [] out := by
        have := tops_same out out' (fun r hr => hin r ((h11 r).1 hr)) (fun r hr => (h11 r).2 (.base (((allOf_ok0 md [] [] w _ hall).2 r).2 ⟨r, hr, by rw [hsaid r hr]⟩)))
        unfold builtOf
        unfold topsOf at this
        rw [this]
      rw [this, F23_self _ hl, Option.bind_some]
    · exfalso
      rcases h10 with h10 | ⟨r, h10, h11⟩
      · exact h9 (h10.symm.trans hall)
      · exact h9 (h11.symm.trans (h7 r (hin r h10)))
  · have he : e = 9 := by
      rcases h5 with h5 | ⟨r, _, h5⟩
      · rcases all_err md [] w rq with h | h
        · exact absurd (h5.symm.trans h) h4
        · exact h5.symm.trans h
      · rcases asks_err md [] w r with h | h
        · exact absurd (h5.symm.trans h) h4
        · exact h5.symm.trans h
    subst he
    rfl
end Go.Vx.Z
namespace Go.Proofs.YtmhlgndhcfdlbaaGreatDoor
open Go Go.Vx Go.ChangeShapes Go.WideShapes Go.ChangeAt Go.RowKit
open Go.ChangeMaps (open_string shut_string)
set_option linter.unusedVariables false
namespace buildBoth
theorem own : ownKnob Tryz.prog.godebug = none := by kernel_rfl
theorem laidOut : laidOutB Tryz.prog = true := by kernel_rfl
set_option maxRecDepth 100000 in
theorem lifted (os : Os) (started : os.Started) (H : Type) (enc : TypeId × Value → H) :
    ReturnsInHanded {} Tryz.checked os 6 .any (fun w args => (Rows.buildBothSpec.pre enc Tryz.prog Tryz.f6 Rows.buildBothRow.domain false w args ∧ laidMetH Tryz.prog Rows.buildBothRow.laid w) ∧ sizedMet enc Tryz.prog Tryz.f6 (OpenSpec.ofChange Rows.buildBothSpec) false w args)
      (Rows.buildBothSpec.post enc Tryz.prog Tryz.f6 false true false false) := by
  refine returnsInHanded_of_change_and (C := Tryz.checked) (X := fun w _ => laidMetH Tryz.prog Rows.buildBothRow.laid w) (fun _ _ _ hh h => h.of_heap hh) own started (by kernel_rfl) Tryz.func6
    (ChangeSpec.witness_shaped (enc := enc) (C := Tryz.checked) (os := os) (X := fun w _ => laidMetH Tryz.prog Rows.buildBothRow.laid w) false (World.laidAll Tryz.prog os Rows.buildBothRow.laid) #[.int .i64 0, .slice none 0 0, .slice none 0 0] 8 (World.laidAll_os _ _ _)
      (World.shaped_of_ZipB (by kernel_rfl) (by kernel_rfl)) (by kernel_rfl) (by kernel_rfl) (by kernel_rfl)
      (by rw [MakeChecks.laidMetH_plain _ _ _ (by kernel_rfl)]; exact laidMet_laidAll _ (by kernel_rfl) (by kernel_rfl))) ?_
  intro W base args ds gs before hval0 hW hc hsz0 hL _
  have hsz : (DataW.weightsEach Tryz.prog (Tryz.f6.params.toList ++ Rows.buildBothSpec.plain.varTypes Tryz.prog) (ds ++ gs)).all (· ≤ reachBytes) = true := hsz0
  have hval : ∀ (j : Nat) t v, Tryz.f6.params[j]? = some t → args[j]? = some v → Value.okWide Tryz.prog W .any base t v := hval0
  have hW' := hW
  obtain ⟨p, q, hA0, hV, rfl, hfz, hnd⟩ := hW
  have hA : DataW.TrodAll enc Tryz.prog W 0 (fun _ => true) true Tryz.f6.params.toList args.toList ds p := hA0
  rw [Tryz.params6] at hA hval hsz
  obtain ⟨v0, vs0, d0, ds0, p0, q0, hargs, rfl, rfl, h0, r0⟩ := trodAll_cons hA
  obtain ⟨v1, vs1, d1, ds1, p1, q1, rfl, rfl, rfl, h1, r1⟩ := trodAll_cons r0
  obtain ⟨v2, vs2, d2, ds2, p2, q2, rfl, rfl, rfl, h2, r2⟩ := trodAll_cons r1
  obtain ⟨rfl, rfl, rfl⟩ := trodAll_nil r2
  obtain rfl : args = #[v0, v1, v2] := by cases args; simp_all
  obtain ⟨rfl, rfl⟩ := trodVars_none hV
  obtain ⟨a0, rfl, rfl, rfl, w0⟩ := open_int Tryz.underlying3 (hval 0 3 v0 rfl rfl) h0
  obtain ⟨a1, len1, cap1, rfl⟩ := okWide_slice Tryz.underlying22 (hval 1 22 v1 rfl rfl)
  have k1 := h1
  have lt1 : ∀ x ∈ p1, x.block < W.heap.size := by obtain ⟨m, hm⟩ := k1; exact DataW.trod_lt m _ _ _ hm
  obtain ⟨z1, w1⟩ : ∃ zs, IsRow .i64 W a1 len1 cap1 zs := by
    obtain ⟨fuel, hf⟩ := h1
    rcases open_ints Tryz.underlying22 Tryz.underlying3 (by kernel_rfl) hf with ⟨hcs, _⟩ | ⟨x, l, c, zs, hcs, _, hl, hm, hz, _, hcell, hwz⟩
    · simp [Value.cells] at hcs
      obtain ⟨rfl, rfl, rfl⟩ := hcs
      exact ⟨[], .inl ⟨rfl, rfl, rfl, rfl⟩⟩
    · simp [Value.cells] at hcs
      obtain ⟨rfl, rfl, rfl⟩ := hcs
      exact ⟨zs, .inr ⟨_, rfl, hl, hm, by simpa using hz, hcell, hwz⟩⟩
  have wf1 : ∀ x ∈ z1.take len1, (Lit.int .i64 x).wf = true := by
    rcases w1 with ⟨_, _, _, rfl⟩ | ⟨_, _, _, _, _, _, hwf⟩
    · simp
    · exact fun x hx => hwf x (List.mem_of_mem_take hx)
  obtain ⟨a2, len2, cap2, rfl⟩ := okWide_slice Tryz.underlying22 (hval 2 22 v2 rfl rfl)
  have k2 := h2
  have lt2 : ∀ x ∈ p2, x.block < W.heap.size := by obtain ⟨m, hm⟩ := k2; exact DataW.trod_lt m _ _ _ hm
  obtain ⟨z2, w2⟩ : ∃ zs, IsRow .i64 W a2 len2 cap2 zs := by
    obtain ⟨fuel, hf⟩ := h2
    rcases open_ints Tryz.underlying22 Tryz.underlying3 (by kernel_rfl) hf with ⟨hcs, _⟩ | ⟨x, l, c, zs, hcs, _, hl, hm, hz, _, hcell, hwz⟩
    · simp [Value.cells] at hcs
      obtain ⟨rfl, rfl, rfl⟩ := hcs
      exact ⟨[], .inl ⟨rfl, rfl, rfl, rfl⟩⟩
    · simp [Value.cells] at hcs
      obtain ⟨rfl, rfl, rfl⟩ := hcs
      exact ⟨zs, .inr ⟨_, rfl, hl, hm, by simpa using hz, hcell, hwz⟩⟩
  have wf2 : ∀ x ∈ z2.take len2, (Lit.int .i64 x).wf = true := by
    rcases w2 with ⟨_, _, _, rfl⟩ | ⟨_, _, _, _, _, _, hwf⟩
    · simp
    · exact fun x hx => hwf x (List.mem_of_mem_take hx)
  clear hA0 hval0 hsz0 hsz
  have hst : ∀ y, (RowS a1 z1.length y ∨ RowS a2 z2.length y) → y.spot = none ∧ ∃ v, W.cell? y = some v := by
    intro y hy
    rcases hy with hy | hy
    · exact isRow_st w1 hy
    · exact isRow_st w2 hy
  refine (law_calls (Go.Vx.Z.ok6) rfl (enters_of Tryz.func6 (by kernel_rfl) rfl) (S := fun y => RowS a1 z1.length y ∨ RowS a2 z2.length y) hst (a0, (z1.take len1), (z2.take len2), ()) (Go.Vx.Z.pure_BuildBoth a0 (z1.take len1) (z2.take len2) w0 wf1 wf2) rfl (fun i => ?_)).mono fun e W' ⟨he, bel⟩ => ?_
  · match i with
    | 0 => exact rfl
    | 1 => exact isRow_rep w1 (fun y hy => .inl hy)
    | 2 => exact isRow_rep w2 (fun y hy => .inr (hy))
    | i + 3 => trivial
  subst he
  exact ⟨_, rfl, _, _, _, [], _, [], hW', trodAll_mk1 (shut_bool Tryz.underlying4 _), (trodAll_cons_mk (shut_int Tryz.underlying3 w0) (trodAll_cons_mk (Below.trod laidOut (by kernel_rfl) (of_decide_eq_true (by kernel_rfl)) k1 bel lt1) (trodAll_cons_mk (Below.trod laidOut (by kernel_rfl) (of_decide_eq_true (by kernel_rfl)) k2 bel lt2) trodAll_mk0))), rfl, bel.frame _, fun h => by cases h⟩
theorem holds : Rows.BuildBothSaid :=
  OpenClaim.holds_of_wide 6 Tryz.f6 rfl rfl rfl rfl rfl rfl rfl ⟨rfl, rfl, rfl, rfl, rfl⟩ rfl rfl rfl rfl rfl (by kernel_rfl) Tryz.func6 (by kernel_rfl)
    (of_decide_eq_true (by kernel_rfl)) (by unfold Func.isWrapper; first | (rw [if_pos (by decide +kernel)]; kernel_rfl) | (rw [if_neg (by decide +kernel)]; exact ⟨rfl, rfl⟩))
    (fun os started H enc _ => lifted os started H enc)
theorem card_holds : Rows.BuildBothCardSaid :=
  Claim7.holds_tied_plain_at .later [] [.data, .pinned] true (true, "d582014b3baee50914b0e50363f0aa1c829743198b04de7ea16a202eaefeca98") false holds (fun _ h => by cases h) (by kernel_rfl) (fun _ h => by cases h) buildBoth_row_tie rfl ⟨rfl, rfl⟩ (by kernel_rfl) rfl
    (fun f fn hf hfn => by
      obtain rfl : f = 6 := Option.some.inj ((show Tryz.prog.funcNamed "transhumance/transhumancelaw10.BuildBoth" = some 6 by kernel_rfl).symm.trans hf) |>.symm
      obtain rfl : fn = Tryz.f6 := (Option.some.inj (Tryz.func6.symm.trans hfn)).symm
      exact ⟨by kernel_rfl, fun j t ht => by
        rw [Tryz.params6] at ht
        have hm : t ∈ [3, 22, 22] := by simpa using Array.mem_of_getElem? ht
        have hall : ([3, 22, 22].all fun u => !Tryz.prog.wantsStandIn u) = true := by kernel_rfl
        exact (show Tryz.prog.wantsStandIn t = false by simpa using List.all_eq_true.1 hall t hm)⟩)
    (by kernel_rfl)
end buildBoth
end Go.Proofs.YtmhlgndhcfdlbaaGreatDoor
