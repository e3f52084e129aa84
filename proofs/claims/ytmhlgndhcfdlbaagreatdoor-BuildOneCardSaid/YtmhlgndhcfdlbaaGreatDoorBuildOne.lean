/- Of one module that is asked for, what is built is what leads from it: it is itself no lower: for every world that Make makes, every module and release of it. No condition but the statement's own. -/
import Derived.Test.YtmhlgndhcfdlbaaGreatDoorV5
import Derived.Test.YtmhlgndhcfdlbaaGreatDoorV1
import Derived.Test.YtmhlgndhcfdlbaaGreatDoorRows
import Derived.Test.YtmhlgndhcfdlbaaGreatDoorTie
import Derived.Test.YtmhlgndhcfdlbaaGreatDoorCards
import Derived.Test.YtmhlgndhcfdlbaaGreatDoorV4
import Derived.WalkKit
import Derived.ProofKit
import Derived.OpenShut
import Derived.ShutString
import Derived.ChangeOld
import Derived.Below
import Derived.SizedLaws
import Derived.LaidMore
import Derived.Lay
import Derived.SevenTiedAt
import Derived.Stop.Joined
import Derived.KernelRfl
set_option linter.unusedSimpArgs false
/-! Of one module that is asked for, what is built is what leads from it. -/
namespace Go.Vx.Z
open Go Go.Vx
set_option linter.unusedVariables false
set_option maxRecDepth 100000
theorem pure_BuildOne (x0 : Int) (x1 : List Int) (x2 x3 : Int) (h0 : (Lit.int .i64 x0).wf = true) (h1 : ∀ x ∈ x1, (Lit.int .i64 x).wf = true) (h2 : (Lit.int .i64 x2).wf = true) (h3 : (Lit.int .i64 x3).wf = true) : F10 (x0, x1, x2, x3, ()) = some (true, ()) := by
  obtain ⟨n, w, rv, g1, hM⟩ := F14_is x0 x1
  have hS := made_small hM
  have hwl : w.length = n := hM.len
  have hn := hM.pos
  have hn7 := hM.le
  obtain ⟨i, hi, hi2⟩ := F16_is x2 w.length (by omega) (by omega)
  have hi2' : F16 (x2, Int.ofNat w.length, ()) = some ((i : Int), ()) := hi2
  rw [F10_eq, F13_is, Option.bind_some]
  simp only [Bool.not_true, cond_false]
  rw [g1, Option.bind_some]
  simp only
  rw [hi2', Option.bind_some]
  simp only
  rw [ge_zero, at_in hi]
  simp only [cond_true, Option.bind_some]
  have hm : w[i] ∈ w := List.getElem_mem hi
  revert hm
  generalize w[i] = m
  intro hm
  obtain ⟨hr0, hr6⟩ := rels_pos hM hm
  obtain ⟨k, hk, hk2⟩ := F16_is x3 m.2.1.length (by omega) (by omega)
  have hk2' : F16 (x3, Int.ofNat m.2.1.length, ()) = some ((k : Int), ()) := hk2
  rw [hk2', Option.bind_some]
  simp only
  rw [ge_zero, at_in hk]
  simp only [cond_true, Option.bind_some]
  have hy : m.2.1[k] ∈ m.2.1 := List.getElem_mem hk
  revert hy
  generalize m.2.1[k] = z
  intro hy
  have hq := of_made hM hm hy z.2.2.1
  have hkn := known_of hM hm hy
  have hr00 : ((m.1, z.1, z.2.1, z.2.2.1, z.2.2.2.1, ()) : Req) = (m.1, z.v) := rfl
  rw [hr00] at hq ⊢
  have hmain : m.1 ≠ lit [109, 97, 105, 110] := by
    obtain ⟨t, ht, _, e, _⟩ := made_of hM hm
    rw [e]
    intro he
    have : ∀ q ∈ pathsL, q ≠ lit [109, 97, 105, 110] := by decide
    exact this _ (path_in ht) he
  have hrq : ∀ r ∈ [((m.1, z.v) : Req)], okR r = true := fun r hr => by rw [List.mem_singleton.1 hr]; exact hq.1
  have hrk : ∀ r ∈ [((m.1, z.v) : Req)], Known w r := fun r hr => by rw [List.mem_singleton.1 hr]; exact hkn
  have hown : ∀ s ∈ ([] : List Swp), s.1 ≠ lit [109, 97, 105, 110] := fun s hs => by simp at hs
  obtain ⟨e, l, g3, hl, h⟩ := list_small (lit [109, 97, 105, 110]) [((m.1, z.v) : Req)] [] [] w rv hS (by simp) (by simp) (by simp) hrq
  have hwhy := why_is hM rv (lit [109, 97, 105, 110]) [((m.1, z.v) : Req)] [] [] (by simp) (by simp) (by simp) hown hrq (by simp) l e g3 m.1
  have hsaid : saidOf (lit [109, 97, 105, 110]) [] [] w (m.1, z.v) = (0, some (m.1, z.v)) := by
    unfold saidOf
    rw [if_neg (by simp [swapOf]), if_neg hmain, if_neg (by simp [exclOf]), if_pos (show (relOf w m.1 z.v).isSome = true from hkn)]
  have hall : allOf (lit [109, 97, 105, 110]) [] [] w [((m.1, z.v) : Req)] = (0, [(m.1, z.v)]) := by simp [allOf, hsaid]
  have hrk2 := reach_known (lit [109, 97, 105, 110]) [((m.1, z.v) : Req)] [] w hM hrk
  have he0 : e = 0 ∧ findOf l m.1 ≠ none := by
    rcases h with ⟨h4, _, out, h5, _, h6, _⟩ | ⟨hne, _, h4 | ⟨r, h4, h5⟩⟩
    · refine ⟨h4, fun hf => ?_⟩
      rw [h5] at hf
      rcases find_built [] out m.1 with ⟨_, h7⟩ | ⟨q, _, _, h7, _⟩
      · exact h7 (m.1, z.v) ((h6 _).2 (.base (by rw [hall]; simp))) rfl
      · rw [hf] at h7; cases h7
    · rw [hall] at h4; exact absurd h4.symm hne
    · exfalso
      rcases asks_err (lit [109, 97, 105, 110]) [] w r with h | h
      · exact hne (h5.symm.trans h)
      · rcases (asks_known (lit [109, 97, 105, 110]) [] w hM (hrk2 r h4).1).1 with h7 | h7
        · exact hne (h5.symm.trans h7)
        · rw [h] at h7; cases h7
  rcases hwhy with ⟨_, _, hw⟩ | ⟨o, r, y, K, rfl, _, rfl, hyo, hyp, hf, hmax, w29, _, hK, hP, hreach, _, hol, _⟩
  · exact absurd hw (by rintro (h | h); exact h he0.1; exact he0.2 h)
  · rw [g3, Option.bind_some, w29]
    simp only [Option.bind_some]
    have hin : ((m.1, z.v) : Req) ∈ o := (hreach _).2 (.base (by rw [hall]; simp))
    have hoky := reach_ok (lit [109, 97, 105, 110]) [((m.1, z.v) : Req)] [] [] w (small_ok [] [] w hS (by simp) (by simp)) hrq y ((hreach y).1 hyo)
    have hzv : okV z.v = true := okR_v hq.1
    have h20 : F20 (builtOf [] o, m.1, ()) = _ := F20_is (builtOf [] o) m.1 hl
    rw [h20, hf, Option.bind_some]
    simp only [Option.elim_some, Bool.not_true, cond_false]
    rw [show (!(0 : Int) == Int.ofNat 0) = false from rfl, cond_false]
    have hF21 := F21_is y.2 z.v (okR_v hoky) hzv
    have hF21' : F21 ((mkB [] y).2.1, (mkB [] y).2.2.1, (mkB [] y).2.2.2.1, (mkB [] y).2.2.2.2.1, z.1, z.2.1, z.2.2.1, z.2.2.2.1, ()) = _ := hF21
    rw [hF21', Option.bind_some]
    have h5 := hmax _ hin rfl
    have h6 := lin_cmpV.anti z.v y.2
    have h7 : decide (cmpV y.2 z.v < Int.ofNat 0) = false := by
      rw [decide_eq_false_iff_not]
      show ¬ cmpV y.2 z.v < 0
      simp only at h5
      omega
    simp only
    rw [h7, cond_false, len_ne hP.ne, cond_false]
    obtain ⟨_, ⟨x, hx1, hx2⟩, _⟩ := hP.chain
    rw [hall] at hx2
    rw [List.mem_singleton.1 hx2] at hx1
    rw [hx1, Option.bind_some]
    simp only [beq_bs]
    have hself : (bs ((m.1, z.v) : Req).1 == bs m.1 && (((m.1, z.v) : Req).2.1 == z.1 && (((m.1, z.v) : Req).2.2.1 == z.2.1 && (((m.1, z.v) : Req).2.2.2.1 == z.2.2.1 && bs ((m.1, z.v) : Req).2.2.2.2.1 == bs z.2.2.2.1)))) = true := by
      simp [Rel.v]
    rw [hself]
    simp only [Bool.not_true, cond_false]
    show some ((Int.ofNat r.length == Int.ofNat 1) == eqV y.2 z.v, ()) = some (true, ())
    have hlen1 : r.length = 1 ↔ y.2 = z.v := by
      constructor
      · intro h1
        have h2 := way_last hP hK
        rw [h1, Nat.sub_self, hx1] at h2
        injection h2 with h2
        rw [← h2]
      · intro he
        have hy0 : y = (m.1, z.v) := Prod.ext hyp he
        cases hP with
        | root _ _ => rfl
        | step g1 g2 _ _ _ _ _ =>
          exfalso
          rw [hK] at g1
          injection g1 with g1
          apply g2
          rw [← g1, hall, hy0]
          simp
    by_cases hyz : y.2 = z.v
    · rw [eqV_iff.2 hyz, hlen1.2 hyz]
      rfl
    · have e1 : eqV y.2 z.v = false := by rw [← Bool.not_eq_true]; exact fun h => hyz (eqV_iff.1 h)
      have e2 : (Int.ofNat r.length == Int.ofNat 1) = false := by
        rw [← Bool.not_eq_true]
        intro h
        refine hyz (hlen1.1 ?_)
        have : Int.ofNat r.length = Int.ofNat 1 := by simpa using h
        exact Int.ofNat.inj this
      rw [e1, e2]
      rfl
end Go.Vx.Z
namespace Go.Proofs.YtmhlgndhcfdlbaaGreatDoor
open Go Go.Vx Go.ChangeShapes Go.WideShapes Go.ChangeAt Go.RowKit
open Go.ChangeMaps (open_string shut_string)
set_option linter.unusedVariables false
namespace buildOne
theorem own : ownKnob Tryz.prog.godebug = none := by kernel_rfl
theorem laidOut : laidOutB Tryz.prog = true := by kernel_rfl
set_option maxRecDepth 100000 in
theorem lifted (os : Os) (started : os.Started) (H : Type) (enc : TypeId × Value → H) :
    ReturnsInHanded {} Tryz.checked os 10 .any (fun w args => (Rows.buildOneSpec.pre enc Tryz.prog Tryz.f10 Rows.buildOneRow.domain false w args ∧ laidMetH Tryz.prog Rows.buildOneRow.laid w) ∧ sizedMet enc Tryz.prog Tryz.f10 (OpenSpec.ofChange Rows.buildOneSpec) false w args)
      (Rows.buildOneSpec.post enc Tryz.prog Tryz.f10 false true false false) := by
  refine returnsInHanded_of_change_and (C := Tryz.checked) (X := fun w _ => laidMetH Tryz.prog Rows.buildOneRow.laid w) (fun _ _ _ hh h => h.of_heap hh) own started (by kernel_rfl) Tryz.func10
    (ChangeSpec.witness_shaped (enc := enc) (C := Tryz.checked) (os := os) (X := fun w _ => laidMetH Tryz.prog Rows.buildOneRow.laid w) false (World.laidAll Tryz.prog os Rows.buildOneRow.laid) #[.int .i64 0, .slice none 0 0, .int .i64 0, .int .i64 0] 8 (World.laidAll_os _ _ _)
      (World.shaped_of_ZipB (by kernel_rfl) (by kernel_rfl)) (by kernel_rfl) (by kernel_rfl) (by kernel_rfl)
      (by rw [MakeChecks.laidMetH_plain _ _ _ (by kernel_rfl)]; exact laidMet_laidAll _ (by kernel_rfl) (by kernel_rfl))) ?_
  intro W base args ds gs before hval0 hW hc hsz0 hL _
  have hsz : (DataW.weightsEach Tryz.prog (Tryz.f10.params.toList ++ Rows.buildOneSpec.plain.varTypes Tryz.prog) (ds ++ gs)).all (· ≤ reachBytes) = true := hsz0
  have hval : ∀ (j : Nat) t v, Tryz.f10.params[j]? = some t → args[j]? = some v → Value.okWide Tryz.prog W .any base t v := hval0
  have hW' := hW
  obtain ⟨p, q, hA0, hV, rfl, hfz, hnd⟩ := hW
  have hA : DataW.TrodAll enc Tryz.prog W 0 (fun _ => true) true Tryz.f10.params.toList args.toList ds p := hA0
  rw [Tryz.params10] at hA hval hsz
  obtain ⟨v0, vs0, d0, ds0, p0, q0, hargs, rfl, rfl, h0, r0⟩ := trodAll_cons hA
  obtain ⟨v1, vs1, d1, ds1, p1, q1, rfl, rfl, rfl, h1, r1⟩ := trodAll_cons r0
  obtain ⟨v2, vs2, d2, ds2, p2, q2, rfl, rfl, rfl, h2, r2⟩ := trodAll_cons r1
  obtain ⟨v3, vs3, d3, ds3, p3, q3, rfl, rfl, rfl, h3, r3⟩ := trodAll_cons r2
  obtain ⟨rfl, rfl, rfl⟩ := trodAll_nil r3
  obtain rfl : args = #[v0, v1, v2, v3] := by cases args; simp_all
  obtain ⟨rfl, rfl⟩ := trodVars_none hV
  obtain ⟨a0, rfl, rfl, rfl, w0⟩ := open_int Tryz.underlying3 (hval 0 3 v0 rfl rfl) h0
  obtain ⟨a1, len1, cap1, rfl⟩ := okWide_slice Tryz.underlying22 (hval 1 22 v1 rfl rfl)
  have k1 := h1
  have lt1 : ∀ x ∈ p1, x.block < W.heap.size := by obtain ⟨m, hm⟩ := k1; exact DataW.trod_lt m _ _ _ hm
  obtain ⟨z1, w1⟩ : ∃ zs, IsRow .i64 W a1 len1 cap1 zs := by
    obtain ⟨fuel, hf⟩ := h1
    rcases open_ints Tryz.underlying22 Tryz.underlying3 (by kernel_rfl) hf with ⟨hcs, _⟩ | ⟨x, l, c, zs, hcs, _, hl, hm, hz, _, hcell, hwz⟩
    · simp [Value.cells] at hcs
      obtain ⟨rfl, rfl, rfl⟩ := hcs
      exact ⟨[], .inl ⟨rfl, rfl, rfl, rfl⟩⟩
    · simp [Value.cells] at hcs
      obtain ⟨rfl, rfl, rfl⟩ := hcs
      exact ⟨zs, .inr ⟨_, rfl, hl, hm, by simpa using hz, hcell, hwz⟩⟩
  have wf1 : ∀ x ∈ z1.take len1, (Lit.int .i64 x).wf = true := by
    rcases w1 with ⟨_, _, _, rfl⟩ | ⟨_, _, _, _, _, _, hwf⟩
    · simp
    · exact fun x hx => hwf x (List.mem_of_mem_take hx)
  obtain ⟨a2, rfl, rfl, rfl, w2⟩ := open_int Tryz.underlying3 (hval 2 3 v2 rfl rfl) h2
  obtain ⟨a3, rfl, rfl, rfl, w3⟩ := open_int Tryz.underlying3 (hval 3 3 v3 rfl rfl) h3
  clear hA0 hval0 hsz0 hsz
  have hst : ∀ y, (RowS a1 z1.length y) → y.spot = none ∧ ∃ v, W.cell? y = some v := by
    intro y hy
    exact isRow_st w1 hy
  refine (law_calls (Go.Vx.Z.ok10) rfl (enters_of Tryz.func10 (by kernel_rfl) rfl) (S := fun y => RowS a1 z1.length y) hst (a0, (z1.take len1), a2, a3, ()) (Go.Vx.Z.pure_BuildOne a0 (z1.take len1) a2 a3 w0 wf1 w2 w3) rfl (fun i => ?_)).mono fun e W' ⟨he, bel⟩ => ?_
  · match i with
    | 0 => exact rfl
    | 1 => exact isRow_rep w1 (fun y hy => hy)
    | 2 => exact rfl
    | 3 => exact rfl
    | i + 4 => trivial
  subst he
  exact ⟨_, rfl, _, _, _, [], _, [], hW', trodAll_mk1 (shut_bool Tryz.underlying4 _), (trodAll_cons_mk (shut_int Tryz.underlying3 w0) (trodAll_cons_mk (Below.trod laidOut (by kernel_rfl) (of_decide_eq_true (by kernel_rfl)) k1 bel lt1) (trodAll_cons_mk (shut_int Tryz.underlying3 w2) (trodAll_cons_mk (shut_int Tryz.underlying3 w3) trodAll_mk0)))), rfl, bel.frame _, fun h => by cases h⟩
theorem holds : Rows.BuildOneSaid :=
  OpenClaim.holds_of_wide 10 Tryz.f10 rfl rfl rfl rfl rfl rfl rfl ⟨rfl, rfl, rfl, rfl, rfl⟩ rfl rfl rfl rfl rfl (by kernel_rfl) Tryz.func10 (by kernel_rfl)
    (of_decide_eq_true (by kernel_rfl)) (by unfold Func.isWrapper; first | (rw [if_pos (by decide +kernel)]; kernel_rfl) | (rw [if_neg (by decide +kernel)]; exact ⟨rfl, rfl⟩))
    (fun os started H enc _ => lifted os started H enc)
theorem card_holds : Rows.BuildOneCardSaid :=
  Claim7.holds_tied_plain_at .later [] [.data, .pinned] true (true, "d582014b3baee50914b0e50363f0aa1c829743198b04de7ea16a202eaefeca98") false holds (fun _ h => by cases h) (by kernel_rfl) (fun _ h => by cases h) buildOne_row_tie rfl ⟨rfl, rfl⟩ (by kernel_rfl) rfl
    (fun f fn hf hfn => by
      obtain rfl : f = 10 := Option.some.inj ((show Tryz.prog.funcNamed "transhumance/transhumancelaw10.BuildOne" = some 10 by kernel_rfl).symm.trans hf) |>.symm
      obtain rfl : fn = Tryz.f10 := (Option.some.inj (Tryz.func10.symm.trans hfn)).symm
      exact ⟨by kernel_rfl, fun j t ht => by
        rw [Tryz.params10] at ht
        have hm : t ∈ [3, 22, 3, 3] := by simpa using Array.mem_of_getElem? ht
        have hall : ([3, 22, 3, 3].all fun u => !Tryz.prog.wantsStandIn u) = true := by kernel_rfl
        exact (show Tryz.prog.wantsStandIn t = false by simpa using List.all_eq_true.1 hall t hm)⟩)
    (by kernel_rfl)
end buildOne
end Go.Proofs.YtmhlgndhcfdlbaaGreatDoor
