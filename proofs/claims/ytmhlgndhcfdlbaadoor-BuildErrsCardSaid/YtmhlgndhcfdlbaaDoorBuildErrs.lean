/- A release that is not there is absent, whoever asks for it; of no release nothing is built: for every world that Make makes, each module of it, any path that begins with a question mark. No condition but the statement's own. -/
import Derived.Test.YtmhlgndhcfdlbaaDoorV4
import Derived.Test.YtmhlgndhcfdlbaaDoorV1
import Derived.Test.YtmhlgndhcfdlbaaDoorRows
import Derived.Test.YtmhlgndhcfdlbaaDoorTie
import Derived.Test.YtmhlgndhcfdlbaaDoorCards
import Derived.Test.YtmhlgndhcfdlbaaDoorV3
import Derived.WalkKit
import Derived.ProofKit
import Derived.OpenShut
import Derived.ShutString
import Derived.ChangeOld
import Derived.Below
import Derived.SizedLaws
import Derived.LaidMore
import Derived.Lay
import Derived.SevenTiedAt
import Derived.Stop.Joined
import Derived.KernelRfl
set_option linter.unusedSimpArgs false
/-! A release that is not there is absent, whoever asks for it. -/
namespace Go.Vx.Z
open Go Go.Vx
set_option linter.unusedVariables false
set_option maxRecDepth 100000
theorem verL_99 : ∀ k, k < 7 → ∀ v ∈ verL k, v.2.2.1 ≠ 99 := by
  intro k hk
  match k, hk with
  | 0, _ | 1, _ | 2, _ | 3, _ | 4, _ | 5, _ | 6, _ => decide +kernel
theorem made_99 {n : Nat} {w : List Mod} (h : Made n w) (p : ByteArray) (v : Ver) (hv : v.2.2.1 = 99) : relOf w p v = none := by
  cases hr : relOf w p v with
  | none => rfl
  | some y =>
    have h1 := List.mem_of_find?_eq_some hr
    have h2 := List.find?_some hr
    have h3 := eqV_iff.1 h2
    unfold relsOf at h1
    cases hm : modOf w p with
    | none => rw [hm] at h1; simp at h1
    | some m =>
      rw [hm] at h1
      obtain ⟨k, hk, _, _, h4, _⟩ := made_of h (modOf_mem hm)
      have h5 : y.v ∈ verL k := by rw [← h4]; exact List.mem_map.2 ⟨y, h1, rfl⟩
      rw [h3] at h5
      exact absurd hv (verL_99 k hk v h5)
theorem err_eq9 {e : Int} (h : e = 9) : (e == Int.ofNat 9) = true := by rw [h]; rfl
theorem pure_BuildErrs (x0 : Int) (x1 : List Int) (x2 : Int) (x3 : ByteArray) (h0 : (Lit.int .i64 x0).wf = true) (h1 : ∀ x ∈ x1, (Lit.int .i64 x).wf = true) (h2 : (Lit.int .i64 x2).wf = true) (h3 : x3.size ≤ 140737488351232) : F4 (x0, x1, x2, x3, ()) = some (true, ()) := by
  obtain ⟨n, w, rv, g1, hM⟩ := F6_is x0 x1
  have hS := made_small hM
  have hwl : w.length = n := hM.len
  have hn := hM.pos
  have hn7 := hM.le
  obtain ⟨i, hi, hi2⟩ := F7_is x2 w.length (by omega) (by omega)
  have hi2' : F7 (x2, Int.ofNat w.length, ()) = some ((i : Int), ()) := hi2
  rw [F4_eq, F5_is, Option.bind_some]
  simp only [Bool.not_true, cond_false]
  rw [g1, Option.bind_some]
  simp only
  rw [hi2', Option.bind_some]
  simp only
  rw [ge_zero, at_in hi]
  simp only [cond_true, Option.bind_some]
  have hm : w[i] ∈ w := List.getElem_mem hi
  revert hm
  generalize w[i] = m
  intro hm
  obtain ⟨hr0, hr6⟩ := rels_pos hM hm
  have h00 : m.2.1[0]? = some m.2.1[0] := List.getElem?_eq_getElem hr0
  rw [h00, Option.bind_some]
  have hy : m.2.1[0] ∈ m.2.1 := List.getElem_mem hr0
  revert hy
  generalize m.2.1[0] = y
  intro hy
  generalize hv : ((y.1, y.2.1, 99, y.2.2.2.1, ()) : Ver) = v
  have hv99 : v.2.2.1 = 99 := by rw [← hv]
  have hnone : ∀ p, relOf w p v = none := fun p => made_99 hM p v hv99
  obtain ⟨t, ht7, _, hpm, _⟩ := made_of hM hm
  have hpin : m.1 ∈ pathsL := by rw [hpm]; exact path_in ht7
  have hmain : m.1 ≠ lit [109, 97, 105, 110] := by
    have : ∀ q ∈ pathsL, q ≠ lit [109, 97, 105, 110] := by decide
    exact this _ hpin
  have hokv : okV v = true := by
    have h6 := hS.ver m hm y hy
    rw [← hv]
    unfold okV at h6 ⊢
    exact h6
  have hokr : ∀ r ∈ [((m.1, v) : Req)], okR r = true := by
    intro r hr
    rw [List.mem_singleton.1 hr]
    have h5 : m.1.size ≤ 1000 := by rw [hpm]; exact path_size t
    unfold okR
    rw [hokv]
    simp only [Bool.and_true, decide_eq_true_eq]
    omega
  have hok := small_ok [] [] w hS (by simp) (by simp)
  have hok2 := small_ok [] [((m.1, m.1, v) : Swp)] w hS (by simp) (by simp)
  have hasks : ∀ p, asksOf (lit [109, 97, 105, 110]) [] [] w (p, v) = (9, []) := fun p => by
    unfold asksOf standsFor
    simp only [swapOf, List.find?_nil, Option.elim_none]
    rw [hnone]
  -- asked for, plainly
  obtain ⟨e, l, g3, hl, h⟩ := list_small (lit [109, 97, 105, 110]) [((m.1, v) : Req)] [] [] w rv hS (by simp) (by simp) (by simp) hokr
  have hsaid : saidOf (lit [109, 97, 105, 110]) [] [] w (m.1, v) = (9, none) := by
    unfold saidOf
    rw [if_neg (by simp [swapOf]), if_neg hmain, if_neg (by simp [exclOf]), hnone]
    rfl
  have hall : allOf (lit [109, 97, 105, 110]) [] [] w [((m.1, v) : Req)] = (9, []) := by simp [allOf, hsaid]
  have hel : e = 9 ∧ l = [] := by
    rcases h with ⟨_, h4, _⟩ | ⟨_, h5, h4 | ⟨r, h4, _⟩⟩
    · rw [hall] at h4; cases h4
    · rw [hall] at h4; exact ⟨h4.symm, h5⟩
    · exfalso
      have : ∀ r, Reach (lit [109, 97, 105, 110]) [] [] w [((m.1, v) : Req)] r → False := by
        intro r hr
        induction hr with
        | base hr => rw [hall] at hr; simp at hr
        | step _ _ ih => exact ih
      exact this r h4
  obtain ⟨rfl, rfl⟩ := hel
  -- asked for, and swapped
  obtain ⟨e', l', g4, hl', h'⟩ := list_small (lit [109, 97, 105, 110]) [((m.1, v) : Req)] [] [((m.1, m.1, v) : Swp)] w rv hS (by simp) (by simp) (by simp) hokr
  have hsw : swapOf [((m.1, m.1, v) : Swp)] m.1 = some (m.1, m.1, v) := by simp [swapOf]
  have hsaid2 : saidOf (lit [109, 97, 105, 110]) [] [((m.1, m.1, v) : Swp)] w (m.1, v) = (0, some (m.1, v)) := by
    unfold saidOf
    simp only
    rw [hsw]
    rfl
  have hall2 : allOf (lit [109, 97, 105, 110]) [] [((m.1, m.1, v) : Swp)] w [((m.1, v) : Req)] = (0, [(m.1, v)]) := by simp [allOf, hsaid2]
  have hasks2 : asksOf (lit [109, 97, 105, 110]) [] [((m.1, m.1, v) : Swp)] w (m.1, v) = (9, []) := by
    unfold asksOf standsFor
    simp only
    rw [hsw]
    simp only [Option.elim_some]
    rw [hnone]
  have hreach : Reach (lit [109, 97, 105, 110]) [] [((m.1, m.1, v) : Swp)] w [((m.1, v) : Req)] (m.1, v) := .base (by rw [hall2]; simp)
  have hel' : e' = 9 ∧ l' = [] := by
    rcases h' with ⟨_, _, out, _, _, h6, h7⟩ | ⟨hne, h5, h4 | ⟨r, h4, h6⟩⟩
    · have := h7 _ ((h6 _).2 hreach)
      rw [hasks2] at this
      cases this
    · rw [hall2] at h4; exact absurd h4.symm hne
    · rcases asks_err (lit [109, 97, 105, 110]) [((m.1, m.1, v) : Swp)] w r with h | h
      · exact absurd (h6.symm.trans h) hne
      · exact ⟨h6.symm.trans h, h5⟩
  obtain ⟨rfl, rfl⟩ := hel'
  -- why
  have hwhy : F12 (w, rv, lit [109, 97, 105, 110], [((m.1, v) : Req)], [], [((m.1, m.1, v) : Swp)], m.1, ()) = some ([], false, ()) := by
    have hml := may_len [((m.1, v) : Req)] w hS (by simp)
    obtain ⟨ec, oc, c1, c2⟩ := closed_ok (lit [109, 97, 105, 110]) [((m.1, v) : Req)] [] [((m.1, m.1, v) : Swp)] w rv hok2 hokr (by simp [big]) (mayCome w [((m.1, v) : Req)]) 10 (reach_may _ _ _ _ w) (asksOf_len _ _ _ w 10 hS.reqs) (by simp only [big, List.length_cons, List.length_nil]; omega)
    rcases c2 with ⟨rfl, _, _, c3, c4⟩ | ⟨hne, rfl, _⟩
    · have := c4 _ ((c3 _).2 hreach)
      rw [hasks2] at this
      cases this
    · have hb' : (!ec == Int.ofNat 0) = true := by
        rw [Bool.not_eq_true', ← Bool.not_eq_true]
        exact fun h => hne (by simpa using h)
      have hF22 := F22_is (lit [109, 97, 105, 110]) [((m.1, v) : Req)] [] [((m.1, m.1, v) : Swp)] w rv [] (by simp) (by simp) (by simp [big])
      have hF22' : F22 (lit [109, 97, 105, 110], [((m.1, v) : Req)], [], [((m.1, m.1, v) : Swp)], w, rv, [], ()) = some ([], ()) := hF22
      rw [F12_eq, F19_eq, Option.bind_some]
      simp only
      rw [c1, Option.bind_some]
      simp only
      rw [hF22', Option.bind_some]
      simp only
      rw [F10_is _ _ (by simp), Option.bind_some]
      simp only [hb']
      rfl
  have q1 := F8_is w rv (lit [109, 97, 105, 110]) [] [] [] hok (m.1, v)
  have q2 := F8_is w rv (lit [109, 97, 105, 110]) [] [] [] hok (lit [63] ++ x3, v)
  rw [hasks] at q1 q2
  have q1' : F8 (w, rv, lit [109, 97, 105, 110], [], [], [], m.1, v) = _ := q1
  have q2' : F8 (w, rv, lit [109, 97, 105, 110], [], [], [], lit [63] ++ x3, v) = _ := q2
  have hf : fitsS (lit [63]) x3 = true := by
    unfold fitsS
    rw [Nat.ble_eq]
    have : (lit [63]).size = 1 := rfl
    omega
  rw [g3, Option.bind_some, q1', Option.bind_some, hf, cond_true, q2', Option.bind_some, g4, Option.bind_some, hwhy, Option.bind_some]
  rfl
end Go.Vx.Z
namespace Go.Proofs.YtmhlgndhcfdlbaaDoor
open Go Go.Vx Go.ChangeShapes Go.WideShapes Go.ChangeAt Go.RowKit
open Go.ChangeMaps (open_string shut_string)
set_option linter.unusedVariables false
namespace buildErrs
theorem own : ownKnob Tryd.prog.godebug = none := by kernel_rfl
theorem laidOut : laidOutB Tryd.prog = true := by kernel_rfl
set_option maxRecDepth 100000 in
theorem lifted (os : Os) (started : os.Started) (H : Type) (enc : TypeId × Value → H) :
    ReturnsInHanded {} Tryd.checked os 4 .any (fun w args => (Rows.buildErrsSpec.pre enc Tryd.prog Tryd.f4 Rows.buildErrsRow.domain false w args ∧ laidMetH Tryd.prog Rows.buildErrsRow.laid w) ∧ sizedMet enc Tryd.prog Tryd.f4 (OpenSpec.ofChange Rows.buildErrsSpec) false w args)
      (Rows.buildErrsSpec.post enc Tryd.prog Tryd.f4 false true false false) := by
  refine returnsInHanded_of_change_and (C := Tryd.checked) (X := fun w _ => laidMetH Tryd.prog Rows.buildErrsRow.laid w) (fun _ _ _ hh h => h.of_heap hh) own started (by kernel_rfl) Tryd.func4
    (ChangeSpec.witness_shaped (enc := enc) (C := Tryd.checked) (os := os) (X := fun w _ => laidMetH Tryd.prog Rows.buildErrsRow.laid w) false (World.laidAll Tryd.prog os Rows.buildErrsRow.laid) #[.int .i64 0, .slice none 0 0, .int .i64 0, .string ByteArray.empty] 8 (World.laidAll_os _ _ _)
      (World.shaped_of_ZipB (by kernel_rfl) (by kernel_rfl)) (by kernel_rfl) (by kernel_rfl) (by kernel_rfl)
      (by rw [MakeChecks.laidMetH_plain _ _ _ (by kernel_rfl)]; exact laidMet_laidAll _ (by kernel_rfl) (by kernel_rfl))) ?_
  intro W base args ds gs before hval0 hW hc hsz0 hL _
  have hsz : (DataW.weightsEach Tryd.prog (Tryd.f4.params.toList ++ Rows.buildErrsSpec.plain.varTypes Tryd.prog) (ds ++ gs)).all (· ≤ reachBytes) = true := hsz0
  have hval : ∀ (j : Nat) t v, Tryd.f4.params[j]? = some t → args[j]? = some v → Value.okWide Tryd.prog W .any base t v := hval0
  have hW' := hW
  obtain ⟨p, q, hA0, hV, rfl, hfz, hnd⟩ := hW
  have hA : DataW.TrodAll enc Tryd.prog W 0 (fun _ => true) true Tryd.f4.params.toList args.toList ds p := hA0
  rw [Tryd.params4] at hA hval hsz
  obtain ⟨v0, vs0, d0, ds0, p0, q0, hargs, rfl, rfl, h0, r0⟩ := trodAll_cons hA
  obtain ⟨v1, vs1, d1, ds1, p1, q1, rfl, rfl, rfl, h1, r1⟩ := trodAll_cons r0
  obtain ⟨v2, vs2, d2, ds2, p2, q2, rfl, rfl, rfl, h2, r2⟩ := trodAll_cons r1
  obtain ⟨v3, vs3, d3, ds3, p3, q3, rfl, rfl, rfl, h3, r3⟩ := trodAll_cons r2
  obtain ⟨rfl, rfl, rfl⟩ := trodAll_nil r3
  obtain rfl : args = #[v0, v1, v2, v3] := by cases args; simp_all
  obtain ⟨rfl, rfl⟩ := trodVars_none hV
  obtain ⟨a0, rfl, rfl, rfl, w0⟩ := open_int Tryd.underlying3 (hval 0 3 v0 rfl rfl) h0
  obtain ⟨a1, len1, cap1, rfl⟩ := okWide_slice Tryd.underlying22 (hval 1 22 v1 rfl rfl)
  have k1 := h1
  have lt1 : ∀ x ∈ p1, x.block < W.heap.size := by obtain ⟨m, hm⟩ := k1; exact DataW.trod_lt m _ _ _ hm
  obtain ⟨z1, w1⟩ : ∃ zs, IsRow .i64 W a1 len1 cap1 zs := by
    obtain ⟨fuel, hf⟩ := h1
    rcases open_ints Tryd.underlying22 Tryd.underlying3 (by kernel_rfl) hf with ⟨hcs, _⟩ | ⟨x, l, c, zs, hcs, _, hl, hm, hz, _, hcell, hwz⟩
    · simp [Value.cells] at hcs
      obtain ⟨rfl, rfl, rfl⟩ := hcs
      exact ⟨[], .inl ⟨rfl, rfl, rfl, rfl⟩⟩
    · simp [Value.cells] at hcs
      obtain ⟨rfl, rfl, rfl⟩ := hcs
      exact ⟨zs, .inr ⟨_, rfl, hl, hm, by simpa using hz, hcell, hwz⟩⟩
  have wf1 : ∀ x ∈ z1.take len1, (Lit.int .i64 x).wf = true := by
    rcases w1 with ⟨_, _, _, rfl⟩ | ⟨_, _, _, _, _, _, hwf⟩
    · simp
    · exact fun x hx => hwf x (List.mem_of_mem_take hx)
  obtain ⟨a2, rfl, rfl, rfl, w2⟩ := open_int Tryd.underlying3 (hval 2 3 v2 rfl rfl) h2
  obtain ⟨a3, rfl, rfl, rfl, y3⟩ := open_string Tryd.underlying9 (hval 3 9 v3 rfl rfl) h3
  have w3 : a3.size ≤ 140737488351232 := by
    have z := sized_string hsz (j := 3) (t := 9) rfl rfl
    rw [Array.length_toList] at z
    exact z
  clear hA0 hval0 hsz0 hsz
  have hst : ∀ y, (RowS a1 z1.length y) → y.spot = none ∧ ∃ v, W.cell? y = some v := by
    intro y hy
    exact isRow_st w1 hy
  refine (law_calls (Go.Vx.Z.ok4) rfl (enters_of Tryd.func4 (by kernel_rfl) rfl) (S := fun y => RowS a1 z1.length y) hst (a0, (z1.take len1), a2, a3, ()) (Go.Vx.Z.pure_BuildErrs a0 (z1.take len1) a2 a3 w0 wf1 w2 w3) rfl (fun i => ?_)).mono fun e W' ⟨he, bel⟩ => ?_
  · match i with
    | 0 => exact rfl
    | 1 => exact isRow_rep w1 (fun y hy => hy)
    | 2 => exact rfl
    | 3 => exact rfl
    | i + 4 => trivial
  subst he
  exact ⟨_, rfl, _, _, _, [], _, [], hW', trodAll_mk1 (shut_bool Tryd.underlying4 _), (trodAll_cons_mk (shut_int Tryd.underlying3 w0) (trodAll_cons_mk (Below.trod laidOut (by kernel_rfl) (of_decide_eq_true (by kernel_rfl)) k1 bel lt1) (trodAll_cons_mk (shut_int Tryd.underlying3 w2) (trodAll_cons_mk (shut_string Tryd.underlying9 y3) trodAll_mk0)))), rfl, bel.frame _, fun h => by cases h⟩
theorem holds : Rows.BuildErrsSaid :=
  OpenClaim.holds_of_wide 4 Tryd.f4 rfl rfl rfl rfl rfl rfl rfl ⟨rfl, rfl, rfl, rfl, rfl⟩ rfl rfl rfl rfl rfl (by kernel_rfl) Tryd.func4 (by kernel_rfl)
    (of_decide_eq_true (by kernel_rfl)) (by unfold Func.isWrapper; first | (rw [if_pos (by decide +kernel)]; kernel_rfl) | (rw [if_neg (by decide +kernel)]; exact ⟨rfl, rfl⟩))
    (fun os started H enc _ => lifted os started H enc)
theorem card_holds : Rows.BuildErrsCardSaid :=
  Claim7.holds_tied_plain_at .later [] [.data, .pinned] true (true, "cd6b24070bd836915534437ee792edb2b936e9cd55c35513f3beca42e816189b") false holds (fun _ h => by cases h) (by kernel_rfl) (fun _ h => by cases h) buildErrs_row_tie rfl ⟨rfl, rfl⟩ (by kernel_rfl) rfl
    (fun f fn hf hfn => by
      obtain rfl : f = 4 := Option.some.inj ((show Tryd.prog.funcNamed "transhumance/transhumancelaw10.BuildErrs" = some 4 by kernel_rfl).symm.trans hf) |>.symm
      obtain rfl : fn = Tryd.f4 := (Option.some.inj (Tryd.func4.symm.trans hfn)).symm
      exact ⟨by kernel_rfl, fun j t ht => by
        rw [Tryd.params4] at ht
        have hm : t ∈ [3, 22, 3, 9] := by simpa using Array.mem_of_getElem? ht
        have hall : ([3, 22, 3, 9].all fun u => !Tryd.prog.wantsStandIn u) = true := by kernel_rfl
        exact (show Tryd.prog.wantsStandIn t = false by simpa using List.all_eq_true.1 hall t hm)⟩)
    (by kernel_rfl)
end buildErrs
end Go.Proofs.YtmhlgndhcfdlbaaDoor
