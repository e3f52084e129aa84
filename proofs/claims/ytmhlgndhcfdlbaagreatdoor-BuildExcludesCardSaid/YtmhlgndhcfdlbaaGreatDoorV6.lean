import Derived.Test.YtmhlgndhcfdlbaaGreatDoorV5
set_option linter.unusedSimpArgs false
/-! What comes up is found. -/
namespace Go.Vx.Z
open Go Go.Vx
set_option linter.unusedVariables false
set_option maxRecDepth 100000
/-- Each is found that came up, no lower. -/
theorem found_up (sw : List Swp) (out : List Req) (hl : (builtOf sw out).length ≤ big) (hok : ∀ r ∈ out, okR r = true) {r : Req} (hr : r ∈ out) :
    ∃ q, okR q = true ∧ F20 (builtOf sw out, r.1, ()) = some ((mkB sw q).1, (mkB sw q).2.1, (mkB sw q).2.2.1, (mkB sw q).2.2.2.1, (mkB sw q).2.2.2.2.1, (mkB sw q).2.2.2.2.2.1, (mkB sw q).2.2.2.2.2.2.1, (mkB sw q).2.2.2.2.2.2.2.1, (mkB sw q).2.2.2.2.2.2.2.2.1, (mkB sw q).2.2.2.2.2.2.2.2.2.1, true, ()) ∧
      ((decide (cmpV q.2 r.2 < Int.ofNat 0)) = false) := by
  rcases find_built sw out r.1 with ⟨_, h⟩ | ⟨q, hq, he, hf, hm⟩
  · exact absurd rfl (h r hr)
  · refine ⟨q, hok q hq, by rw [F20_is _ _ hl, hf]; rfl, ?_⟩
    have h1 := hm r hr rfl
    have h2 := lin_cmpV.anti r.2 q.2
    rw [decide_eq_false_iff_not]
    show ¬ cmpV q.2 r.2 < 0
    omega
theorem okR_v {r : Req} (h : okR r = true) : okV r.2 = true := by
  unfold okR at h
  rw [Bool.and_eq_true] at h
  exact h.2
theorem F26_is (w : List Mod) (rv : List Rev) (md : ByteArray) (rq ex : List Req) (sw : List Swp) (h : okS ex sw w) (r : Req) : F26 (w, rv, md, rq, ex, sw, r.1, r.2.1, r.2.2.1, r.2.2.2.1, r.2.2.2.2.1, ()) = some ((asksOf md ex sw w r).2, (asksOf md ex sw w r).1, ()) := by
  rw [F26_eq, F43_eq, Option.bind_some]
  simp only
  rw [F52_is md rq ex sw w rv h r, Option.bind_some]
theorem built_rise (sw : List Swp) (out : List Req) (i : Nat) (h : i + 1 < (builtOf sw out).length) : cmpT (bs (builtOf sw out)[i].1) (bs (builtOf sw out)[i + 1].1) = -1 := by
  have hp := lasts_asc _ (sortBy_sorted out)
  rw [List.pairwise_iff_getElem] at hp
  have hlen : (builtOf sw out).length = (lasts (sortBy cmpR out)).length := List.length_map _
  have := hp i (i + 1) (by omega) (by omega) (by omega)
  have e : ∀ j (hj : j < (builtOf sw out).length), (builtOf sw out)[j].1 = ((lasts (sortBy cmpR out))[j]'(by omega)).1 := by
    intro j hj
    simp [builtOf, mkB]
  rw [e, e]
  exact this
theorem path_short {p : ByteArray} (h : p ∈ pathsL) : p.size ≤ 1000 := by
  have : ∀ q ∈ pathsL, q.size ≤ 1000 := by decide
  exact this p h
theorem mdl_short {n : Nat} {w : List Mod} (h : Made n w) {md : ByteArray} (hD : Mdl w md) : md.size ≤ 1000 := by
  rcases hD with rfl | ⟨m, hm, rfl⟩
  · decide
  · exact made_path h hm
end Go.Vx.Z
