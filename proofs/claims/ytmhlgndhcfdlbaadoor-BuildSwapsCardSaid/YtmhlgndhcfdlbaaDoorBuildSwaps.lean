/- A module that is swapped asks for what the other one's release does, whatever version of it is asked for: for every world that Make makes, any two modules of it. No condition but the statement's own. -/
import Derived.Test.YtmhlgndhcfdlbaaDoorV4
import Derived.Test.YtmhlgndhcfdlbaaDoorV1
import Derived.Test.YtmhlgndhcfdlbaaDoorRows
import Derived.Test.YtmhlgndhcfdlbaaDoorTie
import Derived.Test.YtmhlgndhcfdlbaaDoorCards
import Derived.Test.YtmhlgndhcfdlbaaDoorV3
import Derived.WalkKit
import Derived.ProofKit
import Derived.OpenShut
import Derived.ShutString
import Derived.ChangeOld
import Derived.Below
import Derived.SizedLaws
import Derived.LaidMore
import Derived.Lay
import Derived.SevenTiedAt
import Derived.Stop.Joined
import Derived.KernelRfl
set_option linter.unusedSimpArgs false
/-! A module that is swapped asks for what the other one's release does. -/
namespace Go.Vx.Z
open Go Go.Vx
set_option linter.unusedVariables false
set_option maxRecDepth 100000
theorem F11_self (l : List Req) (h : l.length ≤ 1000000) : F11 (l, l, ()) = some (true, ()) := by
  rw [F11_eq]
  have e1 : (!Int.ofNat l.length == Int.ofNat l.length) = false := by simp
  rw [e1, cond_false, show (Int.ofNat 0 : Int) = ((0 : Nat) : Int) from rfl, loop_row (B := B11_0) (fun i => (l, l, (i : Int), ())) l.length (e := .inr ()) (fun i hi => by
    rw [B11_0_eq, lt_in hi, ge_zero, at_in hi, wrap_next hi (by omega)]
    simp only [cond_true, Option.bind_some, beq_self_eq_true, Bool.and_self, Bool.not_true, cond_false]) (by
    rw [B11_0_eq, lt_out]; rfl)]
  rfl
def mainL : ByteArray := lit [109, 97, 105, 110]
theorem not_main {p : ByteArray} (h : p ∈ pathsL) : p ≠ mainL := by
  have : ∀ q ∈ pathsL, q ≠ mainL := by decide
  exact this p h
/-- With one swap: nothing that a world asks for is wrong. -/
theorem said_swap {md : ByteArray} {s : Swp} {w : List Mod} {r : Req} (h : Known w r ∨ r.1 = s.1) : (saidOf md [] [s] w r).1 = 0 ∧ ∀ q, (saidOf md [] [s] w r).2 = some q → q = r := by
  unfold saidOf
  split
  · exact ⟨rfl, fun q hq => by injection hq with hq; exact hq.symm⟩
  · rename_i hn
    split
    · exact ⟨rfl, fun q hq => by cases hq⟩
    · rw [if_neg (by simp [exclOf])]
      rcases h with h | h
      · rw [if_pos (show (relOf w r.1 r.2).isSome = true from h)]
        exact ⟨rfl, fun q hq => by injection hq with hq; exact hq.symm⟩
      · exfalso
        apply hn
        unfold swapOf
        simp [h]
theorem pure_BuildSwaps (x0 : Int) (x1 : List Int) (x2 x3 : Int) (h0 : (Lit.int .i64 x0).wf = true) (h1 : ∀ x ∈ x1, (Lit.int .i64 x).wf = true) (h2 : (Lit.int .i64 x2).wf = true) (h3 : (Lit.int .i64 x3).wf = true) : F3 (x0, x1, x2, x3, ()) = some (true, ()) := by
  obtain ⟨n, w, rv, g1, hM⟩ := F6_is x0 x1
  have hS := made_small hM
  have hwl : w.length = n := hM.len
  have hn := hM.pos
  have hn7 := hM.le
  obtain ⟨i, hi, hi2⟩ := F7_is x2 w.length (by omega) (by omega)
  have hi2' : F7 (x2, Int.ofNat w.length, ()) = some ((i : Int), ()) := hi2
  obtain ⟨j, hj, hj2⟩ := F7_is x3 w.length (by omega) (by omega)
  have hj2' : F7 (x3, Int.ofNat w.length, ()) = some ((j : Int), ()) := hj2
  rw [F3_eq, F5_is, Option.bind_some]
  simp only [Bool.not_true, cond_false]
  rw [g1, Option.bind_some]
  simp only
  rw [hi2', Option.bind_some]
  simp only
  rw [ge_zero, at_in hi]
  simp only [cond_true, Option.bind_some]
  rw [hj2', Option.bind_some]
  simp only
  rw [ge_zero, at_in hj]
  simp only [cond_true, Option.bind_some]
  have hm : w[i] ∈ w := List.getElem_mem hi
  have hm2 : w[j] ∈ w := List.getElem_mem hj
  revert hm hm2
  generalize w[i] = m
  generalize w[j] = m2
  intro hm hm2
  obtain ⟨hr0, hr6⟩ := rels_pos hM hm
  obtain ⟨hs0, hs6⟩ := rels_pos hM hm2
  obtain ⟨k, hk, hk2⟩ := F7_is (IntKind.wrap IntKind.i64 (Int.tdiv x3 (Int.ofNat 7))) m2.2.1.length (by omega) (by omega)
  have hk2' : F7 (IntKind.wrap IntKind.i64 (Int.tdiv x3 (Int.ofNat 7)), Int.ofNat m2.2.1.length, ()) = some ((k : Int), ()) := hk2
  rw [hk2', Option.bind_some]
  simp only
  have h00 : m.2.1[0]? = some m.2.1[0] := List.getElem?_eq_getElem hr0
  rw [h00, ge_zero, at_in hk]
  simp only [cond_true, Option.bind_some]
  have hy : m.2.1[0] ∈ m.2.1 := List.getElem_mem hr0
  have hz : m2.2.1[k] ∈ m2.2.1 := List.getElem_mem hk
  revert hy hz
  generalize m.2.1[0] = y
  generalize hzk : m2.2.1[k] = z
  intro hy hz
  have hr00 : ((m.1, y.1, y.2.1, y.2.2.1, y.2.2.2.1, ()) : Req) = (m.1, y.v) := rfl
  have hs00 : ((m.1, m2.1, z.1, z.2.1, z.2.2.1, z.2.2.2.1, ()) : Swp) = (m.1, m2.1, z.v) := rfl
  rw [hr00, hs00]
  obtain ⟨t, ht7, _, hpm, _⟩ := made_of hM hm
  have hkz := known_of hM hm2 hz
  have hok := small_ok [] [((m.1, m2.1, z.v) : Swp)] w hS (by simp) (by simp)
  have hokr : okR (m.1, y.v) = true := by
    have h5 : m.1.size ≤ 1000 := by rw [hpm]; exact path_size t
    have h6 := hS.ver m hm y hy
    unfold okR
    rw [h6]
    simp only [Bool.and_true, decide_eq_true_eq]
    omega
  have hsw : swapOf [((m.1, m2.1, z.v) : Swp)] m.1 = some (m.1, m2.1, z.v) := by simp [swapOf]
  have hstand : ∀ v, standsFor [((m.1, m2.1, z.v) : Swp)] (m.1, v) = (m2.1, z.v) := fun v => by
    unfold standsFor
    simp only
    rw [hsw]
    rfl
  have hasame : ∀ v v', asksOf mainL [] [((m.1, m2.1, z.v) : Swp)] w (m.1, v) = asksOf mainL [] [((m.1, m2.1, z.v) : Swp)] w (m.1, v') := fun v v' => by
    unfold asksOf
    rw [hstand v, hstand v']
  have hall : ∀ l : List Req, (∀ r ∈ l, Known w r ∨ r.1 = m.1) → (allOf mainL [] [((m.1, m2.1, z.v) : Swp)] w l).1 = 0 := fun l hl => allOf_zero mainL [] _ w l fun r hr => (said_swap (s := (m.1, m2.1, z.v)) (hl r hr)).1
  have hask : ∀ r : Req, Known w r ∨ r.1 = m.1 → (asksOf mainL [] [((m.1, m2.1, z.v) : Swp)] w r).1 = 0 ∧ ∀ q ∈ (asksOf mainL [] [((m.1, m2.1, z.v) : Swp)] w r).2, Known w q := by
    intro r hr
    have hst : Known w (standsFor [((m.1, m2.1, z.v) : Swp)] r) := by
      by_cases he : r.1 = m.1
      · have : r = (m.1, r.2) := Prod.ext he rfl
        rw [this, hstand]
        exact hkz
      · rcases hr with hr | hr
        · have : standsFor [((m.1, m2.1, z.v) : Swp)] r = r := by
            unfold standsFor
            have : swapOf [((m.1, m2.1, z.v) : Swp)] r.1 = none := by
              unfold swapOf
              rw [List.find?_eq_none]
              intro s hs hE
              rw [List.mem_singleton.1 hs] at hE
              exact he (bs_eq.1 hE).symm
            rw [this]; rfl
          rw [this]; exact hr
        · exact absurd hr he
    have hreq : ∀ x, relOf w (standsFor [((m.1, m2.1, z.v) : Swp)] r).1 (standsFor [((m.1, m2.1, z.v) : Swp)] r).2 = some x → ∀ q ∈ x.reqs, Known w q := fun x hx q hq => made_known hM (rel_in_made hM hx q hq)
    refine ⟨?_, fun q hq => ?_⟩
    · unfold asksOf
      unfold Known at hst
      cases hx : relOf w (standsFor [((m.1, m2.1, z.v) : Swp)] r).1 (standsFor [((m.1, m2.1, z.v) : Swp)] r).2 with
      | none => rw [hx] at hst; cases hst
      | some x =>
        simp only
        rw [if_pos (hall x.reqs fun q hq => .inl (hreq x hx q hq))]
    · obtain ⟨x, hx, r', h5, h6⟩ := asksOf_mem mainL [] _ w hq
      have h7 := hreq x hx r' h5
      rw [(said_swap (.inl h7)).2 q h6]
      exact h7
  have hreach : ∀ r, Reach mainL [] [((m.1, m2.1, z.v) : Swp)] w [(m.1, y.v)] r → Known w r ∨ r.1 = m.1 := by
    intro r hr
    induction hr with
    | base hr =>
      obtain ⟨r', h5, h6⟩ := allOf_mem mainL [] _ w _ _ hr
      rw [List.mem_singleton.1 h5] at h6
      rw [(said_swap (s := (m.1, m2.1, z.v)) (.inr rfl)).2 _ h6]
      exact .inr rfl
    | step _ ha ih => exact .inl ((hask _ ih).2 _ ha)
  have ha1 := F8_is w rv mainL [(m.1, y.v)] [] [((m.1, m2.1, z.v) : Swp)] hok (m.1, y.v)
  have ha2 := F8_is w rv mainL [(m.1, y.v)] [] [((m.1, m2.1, z.v) : Swp)] hok (m.1, (77, 0, 0, lit [], ()))
  rw [hasame (77, 0, 0, lit [], ()) y.v] at ha2
  have ha1' : F8 (w, rv, lit [109, 97, 105, 110], [(m.1, y.v)], [], [((m.1, m2.1, z.v) : Swp)], m.1, y.v) = _ := ha1
  have ha2' : F8 (w, rv, lit [109, 97, 105, 110], [(m.1, y.v)], [], [((m.1, m2.1, z.v) : Swp)], m.1, Int.ofNat 77, Int.ofNat 0, Int.ofNat 0, lit [], ()) = _ := ha2
  rw [ha1', Option.bind_some, ha2', Option.bind_some]
  simp only
  obtain ⟨e, l, g3, hl, h⟩ := list_small mainL [(m.1, y.v)] [] [((m.1, m2.1, z.v) : Swp)] w rv hS (by simp) (by simp) (by simp) fun r hr => by rw [List.mem_singleton.1 hr]; exact hokr
  have g3' : F9 (w, rv, lit [109, 97, 105, 110], [(m.1, y.v)], [], [((m.1, m2.1, z.v) : Swp)], ()) = _ := g3
  rw [g3', Option.bind_some]
  simp only
  have hm0 := (hask (m.1, y.v) (.inr rfl)).1
  rcases h with ⟨rfl, h4, out, rfl, h5, h6, h7⟩ | ⟨hne, _, h4 | ⟨r, h4, h5⟩⟩
  · have hin : ((m.1, y.v) : Req) ∈ out := by
      refine (h6 _).2 (.base (((allOf_ok0 mainL [] _ w _ h4).2 _).2 ⟨_, List.mem_singleton.2 rfl, ?_⟩))
      unfold saidOf
      simp only
      rw [hsw]
      rfl
    rcases find_built [((m.1, m2.1, z.v) : Swp)] out m.1 with ⟨_, h8⟩ | ⟨q, hq, he, hf, _⟩
    · exact absurd rfl (h8 _ hin)
    · rw [F10_is _ _ hl, hf, Option.bind_some]
      have hmk : mkB [((m.1, m2.1, z.v) : Swp)] q = (q.1, q.2.1, q.2.2.1, q.2.2.2.1, q.2.2.2.2.1, m2.1, z.v) := by
        unfold mkB
        rw [he, hsw]
        rfl
      have hlen : (asksOf mainL [] [((m.1, m2.1, z.v) : Swp)] w (m.1, y.v)).2.length ≤ 1000000 := by
        have := asksOf_len mainL [] [((m.1, m2.1, z.v) : Swp)] w 10 hS.reqs (m.1, y.v)
        omega
      rw [hm0, hmk, F11_self _ hlen]
      simp only [Option.elim_some, Option.bind_some, beq_self_eq_true, cond_true]
      simp [Rel.v]
  · exact absurd (h4.symm.trans (hall _ fun r hr => by rw [List.mem_singleton.1 hr]; exact .inr rfl)) hne
  · exact absurd (h5.symm.trans (hask r (hreach r h4)).1) hne
end Go.Vx.Z
namespace Go.Proofs.YtmhlgndhcfdlbaaDoor
open Go Go.Vx Go.ChangeShapes Go.WideShapes Go.ChangeAt Go.RowKit
open Go.ChangeMaps (open_string shut_string)
set_option linter.unusedVariables false
namespace buildSwaps
theorem own : ownKnob Tryd.prog.godebug = none := by kernel_rfl
theorem laidOut : laidOutB Tryd.prog = true := by kernel_rfl
set_option maxRecDepth 100000 in
theorem lifted (os : Os) (started : os.Started) (H : Type) (enc : TypeId × Value → H) :
    ReturnsInHanded {} Tryd.checked os 3 .any (fun w args => (Rows.buildSwapsSpec.pre enc Tryd.prog Tryd.f3 Rows.buildSwapsRow.domain false w args ∧ laidMetH Tryd.prog Rows.buildSwapsRow.laid w) ∧ sizedMet enc Tryd.prog Tryd.f3 (OpenSpec.ofChange Rows.buildSwapsSpec) false w args)
      (Rows.buildSwapsSpec.post enc Tryd.prog Tryd.f3 false true false false) := by
  refine returnsInHanded_of_change_and (C := Tryd.checked) (X := fun w _ => laidMetH Tryd.prog Rows.buildSwapsRow.laid w) (fun _ _ _ hh h => h.of_heap hh) own started (by kernel_rfl) Tryd.func3
    (ChangeSpec.witness_shaped (enc := enc) (C := Tryd.checked) (os := os) (X := fun w _ => laidMetH Tryd.prog Rows.buildSwapsRow.laid w) false (World.laidAll Tryd.prog os Rows.buildSwapsRow.laid) #[.int .i64 0, .slice none 0 0, .int .i64 0, .int .i64 0] 8 (World.laidAll_os _ _ _)
      (World.shaped_of_ZipB (by kernel_rfl) (by kernel_rfl)) (by kernel_rfl) (by kernel_rfl) (by kernel_rfl)
      (by rw [MakeChecks.laidMetH_plain _ _ _ (by kernel_rfl)]; exact laidMet_laidAll _ (by kernel_rfl) (by kernel_rfl))) ?_
  intro W base args ds gs before hval0 hW hc hsz0 hL _
  have hsz : (DataW.weightsEach Tryd.prog (Tryd.f3.params.toList ++ Rows.buildSwapsSpec.plain.varTypes Tryd.prog) (ds ++ gs)).all (· ≤ reachBytes) = true := hsz0
  have hval : ∀ (j : Nat) t v, Tryd.f3.params[j]? = some t → args[j]? = some v → Value.okWide Tryd.prog W .any base t v := hval0
  have hW' := hW
  obtain ⟨p, q, hA0, hV, rfl, hfz, hnd⟩ := hW
  have hA : DataW.TrodAll enc Tryd.prog W 0 (fun _ => true) true Tryd.f3.params.toList args.toList ds p := hA0
  rw [Tryd.params3] at hA hval hsz
  obtain ⟨v0, vs0, d0, ds0, p0, q0, hargs, rfl, rfl, h0, r0⟩ := trodAll_cons hA
  obtain ⟨v1, vs1, d1, ds1, p1, q1, rfl, rfl, rfl, h1, r1⟩ := trodAll_cons r0
  obtain ⟨v2, vs2, d2, ds2, p2, q2, rfl, rfl, rfl, h2, r2⟩ := trodAll_cons r1
  obtain ⟨v3, vs3, d3, ds3, p3, q3, rfl, rfl, rfl, h3, r3⟩ := trodAll_cons r2
  obtain ⟨rfl, rfl, rfl⟩ := trodAll_nil r3
  obtain rfl : args = #[v0, v1, v2, v3] := by cases args; simp_all
  obtain ⟨rfl, rfl⟩ := trodVars_none hV
  obtain ⟨a0, rfl, rfl, rfl, w0⟩ := open_int Tryd.underlying3 (hval 0 3 v0 rfl rfl) h0
  obtain ⟨a1, len1, cap1, rfl⟩ := okWide_slice Tryd.underlying22 (hval 1 22 v1 rfl rfl)
  have k1 := h1
  have lt1 : ∀ x ∈ p1, x.block < W.heap.size := by obtain ⟨m, hm⟩ := k1; exact DataW.trod_lt m _ _ _ hm
  obtain ⟨z1, w1⟩ : ∃ zs, IsRow .i64 W a1 len1 cap1 zs := by
    obtain ⟨fuel, hf⟩ := h1
    rcases open_ints Tryd.underlying22 Tryd.underlying3 (by kernel_rfl) hf with ⟨hcs, _⟩ | ⟨x, l, c, zs, hcs, _, hl, hm, hz, _, hcell, hwz⟩
    · simp [Value.cells] at hcs
      obtain ⟨rfl, rfl, rfl⟩ := hcs
      exact ⟨[], .inl ⟨rfl, rfl, rfl, rfl⟩⟩
    · simp [Value.cells] at hcs
      obtain ⟨rfl, rfl, rfl⟩ := hcs
      exact ⟨zs, .inr ⟨_, rfl, hl, hm, by simpa using hz, hcell, hwz⟩⟩
  have wf1 : ∀ x ∈ z1.take len1, (Lit.int .i64 x).wf = true := by
    rcases w1 with ⟨_, _, _, rfl⟩ | ⟨_, _, _, _, _, _, hwf⟩
    · simp
    · exact fun x hx => hwf x (List.mem_of_mem_take hx)
  obtain ⟨a2, rfl, rfl, rfl, w2⟩ := open_int Tryd.underlying3 (hval 2 3 v2 rfl rfl) h2
  obtain ⟨a3, rfl, rfl, rfl, w3⟩ := open_int Tryd.underlying3 (hval 3 3 v3 rfl rfl) h3
  clear hA0 hval0 hsz0 hsz
  have hst : ∀ y, (RowS a1 z1.length y) → y.spot = none ∧ ∃ v, W.cell? y = some v := by
    intro y hy
    exact isRow_st w1 hy
  refine (law_calls (Go.Vx.Z.ok3) rfl (enters_of Tryd.func3 (by kernel_rfl) rfl) (S := fun y => RowS a1 z1.length y) hst (a0, (z1.take len1), a2, a3, ()) (Go.Vx.Z.pure_BuildSwaps a0 (z1.take len1) a2 a3 w0 wf1 w2 w3) rfl (fun i => ?_)).mono fun e W' ⟨he, bel⟩ => ?_
  · match i with
    | 0 => exact rfl
    | 1 => exact isRow_rep w1 (fun y hy => hy)
    | 2 => exact rfl
    | 3 => exact rfl
    | i + 4 => trivial
  subst he
  exact ⟨_, rfl, _, _, _, [], _, [], hW', trodAll_mk1 (shut_bool Tryd.underlying4 _), (trodAll_cons_mk (shut_int Tryd.underlying3 w0) (trodAll_cons_mk (Below.trod laidOut (by kernel_rfl) (of_decide_eq_true (by kernel_rfl)) k1 bel lt1) (trodAll_cons_mk (shut_int Tryd.underlying3 w2) (trodAll_cons_mk (shut_int Tryd.underlying3 w3) trodAll_mk0)))), rfl, bel.frame _, fun h => by cases h⟩
theorem holds : Rows.BuildSwapsSaid :=
  OpenClaim.holds_of_wide 3 Tryd.f3 rfl rfl rfl rfl rfl rfl rfl ⟨rfl, rfl, rfl, rfl, rfl⟩ rfl rfl rfl rfl rfl (by kernel_rfl) Tryd.func3 (by kernel_rfl)
    (of_decide_eq_true (by kernel_rfl)) (by unfold Func.isWrapper; first | (rw [if_pos (by decide +kernel)]; kernel_rfl) | (rw [if_neg (by decide +kernel)]; exact ⟨rfl, rfl⟩))
    (fun os started H enc _ => lifted os started H enc)
theorem card_holds : Rows.BuildSwapsCardSaid :=
  Claim7.holds_tied_plain_at .later [] [.data, .pinned] true (true, "cd6b24070bd836915534437ee792edb2b936e9cd55c35513f3beca42e816189b") false holds (fun _ h => by cases h) (by kernel_rfl) (fun _ h => by cases h) buildSwaps_row_tie rfl ⟨rfl, rfl⟩ (by kernel_rfl) rfl
    (fun f fn hf hfn => by
      obtain rfl : f = 3 := Option.some.inj ((show Tryd.prog.funcNamed "transhumance/transhumancelaw10.BuildSwaps" = some 3 by kernel_rfl).symm.trans hf) |>.symm
      obtain rfl : fn = Tryd.f3 := (Option.some.inj (Tryd.func3.symm.trans hfn)).symm
      exact ⟨by kernel_rfl, fun j t ht => by
        rw [Tryd.params3] at ht
        have hm : t ∈ [3, 22, 3, 3] := by simpa using Array.mem_of_getElem? ht
        have hall : ([3, 22, 3, 3].all fun u => !Tryd.prog.wantsStandIn u) = true := by kernel_rfl
        exact (show Tryd.prog.wantsStandIn t = false by simpa using List.all_eq_true.1 hall t hm)⟩)
    (by kernel_rfl)
end buildSwaps
end Go.Proofs.YtmhlgndhcfdlbaaDoor
