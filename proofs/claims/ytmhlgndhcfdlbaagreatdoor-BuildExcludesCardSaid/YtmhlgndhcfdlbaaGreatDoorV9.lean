import Derived.Test.YtmhlgndhcfdlbaaGreatDoorV8
set_option linter.unusedSimpArgs false
/-! A world that is made: what it asks for is there. -/
namespace Go.Vx
open Go
set_option linter.unusedVariables false
theorem maxV_ge : ∀ (l : List Ver), (l.Pairwise fun a b => cmpV a b = -1) → ∀ v ∈ l, cmpV v (maxV l) ≤ 0 := by
  intro l hp v hv
  have hne : l ≠ [] := fun e => by rw [e] at hv; simp at hv
  obtain ⟨b0, hb0⟩ : ∃ b0, l = b0 ++ [maxV l] := List.getLast?_eq_some_iff.1 (maxV_last l hp hne)
  rw [hb0] at hv hp
  rcases List.mem_append.1 hv with h | h
  · have := (List.pairwise_append.1 hp).2.2 v h (maxV l) (by simp)
    omega
  · rw [List.mem_singleton.1 h, lin_cmpV.self]; decide
end Go.Vx
namespace Go.Vx.Z
open Go Go.Vx
set_option linter.unusedVariables false
set_option maxRecDepth 100000
theorem paths_one : ∀ i, i < 7 → ∀ j, j < 7 → pathsL.getD i (lit []) = pathsL.getD j (lit []) → i = j := by decide
theorem made_at {n : Nat} {w : List Mod} (h : Made n w) {k : Nat} (hk : k < n) : ∃ hw : k < w.length, ModOK n k w[k] ∧ modOf w (pathsL.getD k (lit [])) = some w[k] := by
  have hl := h.len
  have hn := h.le
  have hw : k < w.length := by omega
  refine ⟨hw, h.mods k _ (List.getElem?_eq_getElem hw), ?_⟩
  cases hm : modOf w (pathsL.getD k (lit [])) with
  | none =>
    have := List.find?_eq_none.1 hm w[k] (List.getElem_mem hw)
    exact absurd (bs_eq.2 (h.mods k _ (List.getElem?_eq_getElem hw)).1) this
  | some m =>
    obtain ⟨k', hk', hkn, h1, _⟩ := made_of h (modOf_mem hm)
    have h5 := List.find?_some hm
    have h2 : m.1 = pathsL.getD k (lit []) := bs_eq.1 h5
    have := paths_one k' (by omega) k (by omega) (h1.symm.trans h2)
    subst this
    congr 1
    obtain ⟨j, hj, he⟩ := List.getElem_of_mem (modOf_mem hm)
    have h3 := h.mods j m (by rw [List.getElem?_eq_getElem hj, he])
    have := paths_one j (by omega) k' (by omega) (h3.1.symm.trans h1)
    subst this
    exact he.symm
theorem made_mod {n : Nat} {w : List Mod} (h : Made n w) {m : Mod} (hm : m ∈ w) : modOf w m.1 = some m := by
  obtain ⟨j, hj, he⟩ := List.getElem_of_mem hm
  have h3 := h.mods j m (by rw [List.getElem?_eq_getElem hj, he])
  have hl := h.len
  obtain ⟨hw, _, h4⟩ := made_at h (show j < n by omega)
  rw [h3.1, h4, he]
/-- A release that is there. -/
def Known (w : List Mod) (r : Req) : Prop := (relOf w r.1 r.2).isSome = true
theorem known_vers {w : List Mod} {p : ByteArray} {v : Ver} : Known w (p, v) ↔ v ∈ versOf w p := by
  unfold Known relOf versOf
  simp only [List.find?_isSome, List.mem_map]
  constructor
  · rintro ⟨y, h1, h2⟩
    exact ⟨y, h1, eqV_iff.1 h2⟩
  · rintro ⟨y, h1, h2⟩
    exact ⟨y, h1, eqV_iff.2 h2⟩
theorem made_known {n : Nat} {w : List Mod} (h : Made n w) {r : Req} (hr : GoodReq n r) : Known w r := by
  obtain ⟨j, hj, e1, e2⟩ := hr
  have : r = (r.1, r.2) := rfl
  rw [this, known_vers, e1]
  obtain ⟨hw, h1, h2⟩ := made_at h hj
  unfold versOf relsOf
  rw [h2]
  simp only [Option.elim_some]
  rw [h1.2.1]
  unfold verL
  exact List.mem_append_right _ e2
theorem known_of {n : Nat} {w : List Mod} (h : Made n w) {m : Mod} (hm : m ∈ w) {y : Rel} (hy : y ∈ m.2.1) : Known w (m.1, y.v) := by
  rw [known_vers]
  unfold versOf relsOf
  rw [made_mod h hm]
  exact List.mem_map.2 ⟨y, hy, rfl⟩
section
variable (md : ByteArray) (rq ex : List Req) (w : List Mod)
/-- Without swaps: what is said of a release that is there. -/
theorem said_known {r : Req} (hr : Known w r) : ((saidOf md ex [] w r).1 = 0 ∨ (saidOf md ex [] w r).1 = 13) ∧ ∀ q, (saidOf md ex [] w r).2 = some q → Known w q ∧ exclOf ex q = false ∧ (saidOf md ex [] w r).1 = 0 := by
  unfold saidOf
  rw [if_neg (by simp [swapOf])]
  split
  · exact ⟨.inl rfl, fun q hq => by cases hq⟩
  · split
    · split
      · exact ⟨.inr rfl, fun q hq => by cases hq⟩
      · rename_i hne
        refine ⟨.inl rfl, fun q hq => ?_⟩
        injection hq with hq
        subst hq
        have h1 := List.mem_filter.1 (maxV_mem _ hne)
        refine ⟨known_vers.2 h1.1, ?_, rfl⟩
        obtain ⟨_, h2⟩ := h1
        change (!delP ex r (maxV (belowOf w ex r))) = true at h2
        revert h2
        generalize maxV (belowOf w ex r) = v
        intro h2
        unfold delP at h2
        rw [Bool.not_eq_true', Bool.or_eq_false_iff] at h2
        exact h2.2
    · rename_i hx
      rw [if_pos (show (relOf w r.1 r.2).isSome = true from hr)]
      refine ⟨.inl rfl, fun q hq => ?_⟩
      injection hq with hq
      subst hq
      exact ⟨hr, by simpa using hx, rfl⟩
theorem all_known {l : List Req} (hl : ∀ r ∈ l, Known w r) : ((allOf md ex [] w l).1 = 0 ∨ (allOf md ex [] w l).1 = 13) ∧ ∀ q ∈ (allOf md ex [] w l).2, Known w q ∧ exclOf ex q = false := by
  constructor
  · by_cases h : (allOf md ex [] w l).1 = 0
    · exact .inl h
    · obtain ⟨r, h1, h2⟩ := allOf_err md ex [] w l h
      rw [← h2]
      exact (said_known md ex w (hl r h1)).1
  · intro q hq
    obtain ⟨r, h1, h2⟩ := allOf_mem md ex [] w _ _ hq
    have := (said_known md ex w (hl r h1)).2 q h2
    exact ⟨this.1, this.2.1⟩
theorem asks_known {n : Nat} (h : Made n w) {r : Req} (hr : Known w r) : ((asksOf md ex [] w r).1 = 0 ∨ (asksOf md ex [] w r).1 = 13) ∧ ∀ q ∈ (asksOf md ex [] w r).2, Known w q ∧ exclOf ex q = false := by
  have hst : standsFor [] r = r := rfl
  have hk : ∀ y, relOf w r.1 r.2 = some y → ∀ q ∈ y.reqs, Known w q := fun y hy q hq => made_known h (rel_in_made h hy q hq)
  constructor
  · unfold asksOf
    rw [hst]
    split
    · rename_i hn
      unfold Known at hr
      rw [hn] at hr
      cases hr
    · rename_i y hy
      split
      · exact .inl rfl
      · exact (all_known md ex w (hk y hy)).1
  · intro q hq
    obtain ⟨y, hy, r', h1, h2⟩ := asksOf_mem md ex [] w hq
    have := (said_known md ex w (hk y hy r' h1)).2 q h2
    exact ⟨this.1, this.2.1⟩
theorem reach_known {n : Nat} (h : Made n w) (hrq : ∀ r ∈ rq, Known w r) : ∀ r, Reach md ex [] w rq r → Known w r ∧ exclOf ex r = false := by
  intro r hr
  induction hr with
  | base hr => exact (all_known md ex w hrq).2 _ hr
  | step _ ha ih => exact (asks_known md ex w h ih.1).2 _ ha
end
end Go.Vx.Z
