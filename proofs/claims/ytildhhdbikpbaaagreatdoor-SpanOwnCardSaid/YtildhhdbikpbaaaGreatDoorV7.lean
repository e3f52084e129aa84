import Derived.Test.YtildhhdbikpbaaaGreatDoorV6
set_option linter.unusedSimpArgs false
/-! SpanLaws -/
namespace Go.Vx.Z
open Go Go.Vx
set_option linter.unusedVariables false
set_option maxRecDepth 100000
theorem len0 {L : List Span} (h : Nrm L) (hd : ∀ x, ¬ den L x) : L = [] := nrm_uniq h ⟨by simp [Pc.Nm], by simp⟩ fun x => ⟨fun h => absurd h (hd x), fun h => absurd h (den_nil x)⟩
theorem or2_says (a b : List Span) (ha : Nrm a) (hb : Nrm b) (hl : a.length + b.length ≤ 1000000) : ∃ R, F17 ([a, b], ()) = some (R, ()) ∧ Nrm R ∧ (∀ x, den R x ↔ den a x ∨ den b x) ∧ R.length ≤ a.length + b.length := by
  have e : [a, b].flatten = a ++ b := by simp
  obtain ⟨R, h1, h2, h3, h4⟩ := or_says [a, b] (fun s hs => by
    rw [e] at hs
    rcases List.mem_append.1 hs with h | h
    · exact nrm_ok ha s h
    · exact nrm_ok hb s h) (by rw [e, List.length_append]; simp only [big]; omega) (by show 2 ≤ big; decide)
  rw [e] at h3 h4
  exact ⟨R, h1, h2, fun x => by rw [h3, den_append], by simpa using h4⟩
theorem or_rng {a b R : List Span} (ha : Rng a) (hb : Rng b) (hR : Nrm R) (h : ∀ x, den R x ↔ den a x ∨ den b x) : Rng R := den_rng hR fun x hx => by
  rcases (h x).1 hx with h | h
  · exact (rng_den ha h).1
  · exact (rng_den hb h).1
theorem nrm_nil : Nrm [] ∧ Rng [] := ⟨⟨by simp [Pc.Nm], by simp⟩, by simp [Rng]⟩
open Classical in
theorem same_is {a b : List Span} (hl : a.length ≤ 1000000) (h : a = b) : F19 (a, b, ()) = some (true, ()) := by
  rw [F19_is a b (by simp only [big]; omega), decide_eq_true h]
theorem pure_SpanLaws (x0 x1 x2 : List Int) (h0 : ∀ x ∈ x0, (Lit.int .i64 x).wf = true) (h1 : ∀ x ∈ x1, (Lit.int .i64 x).wf = true) (h2 : ∀ x ∈ x2, (Lit.int .i64 x).wf = true) : F4 (x0, x1, x2, ()) = some (true, ()) := by
  obtain ⟨a, fa, na, ra, la, _⟩ := make_is x0
  obtain ⟨b, fb, nb, rb, lb, _⟩ := make_is x1
  obtain ⟨c, fc, nc, rc, lc, _⟩ := make_is x2
  obtain ⟨A, fA, nA, rA, dA, lA⟩ := not_says a na ra (by simp only [big]; omega)
  obtain ⟨AA, fAA, nAA, rAA, dAA, lAA⟩ := not_says A nA rA (by simp only [big]; omega)
  obtain ⟨B, fB, nB, rB, dB, lB⟩ := not_says b nb rb (by simp only [big]; omega)
  obtain ⟨ab, fab, nab, dab, lab⟩ := or2_says a b na nb (by omega)
  have rab := or_rng ra rb nab dab
  obtain ⟨AB, fAB, nAB, rAB, dAB, lAB⟩ := not_says ab nab rab (by simp only [big]; omega)
  obtain ⟨aB, faB, naB, daB, laB⟩ := and_says A B nA nB (by omega) (by omega)
  obtain ⟨bc, fbc, nbc, dbc, lbc⟩ := or2_says b c nb nc (by omega)
  obtain ⟨abc, fabc, nabc, dabc, labc⟩ := and_says a bc na nbc (by omega) (by omega)
  obtain ⟨p, fp, np, dp, lp⟩ := and_says a b na nb (by omega) (by omega)
  obtain ⟨q, fq, nq, dq, lq⟩ := and_says a c na nc (by omega) (by omega)
  have lp' : p.length ≤ 36 := Nat.le_trans lp (Nat.mul_le_mul la lb)
  have lq' : q.length ≤ 36 := Nat.le_trans lq (Nat.mul_le_mul la lc)
  obtain ⟨pq, fpq, npq, dpq, lpq⟩ := or2_says p q np nq (by omega)
  obtain ⟨aA, faA, naA, daA, laA⟩ := or2_says a A na nA (by omega)
  obtain ⟨N, fN, nN, rN, dN, lN⟩ := not_says [] nrm_nil.1 nrm_nil.2 (by decide)
  obtain ⟨z, fz, nz, dz, lz⟩ := and_says a A na nA (by omega) (by omega)
  obtain ⟨o, fo, no, do_, lo⟩ := or_says [a] (fun s hs => nrm_ok na s (by simpa using hs)) (by simp only [List.flatten_cons, List.flatten_nil, List.append_nil, big]; omega) (by show 1 ≤ big; decide)
  obtain ⟨e, fe, ne, de, le⟩ := or_says [] (by simp) (by show 0 ≤ big; decide) (by show 0 ≤ big; decide)
  obtain ⟨ba, fba, nba, dba, lba⟩ := or2_says b a nb na (by omega)
  have c1 : AA = a := nrm_uniq nAA na fun x => by
    rw [dAA, dA]
    constructor
    · rintro ⟨h1, h2, h3⟩
      exact Classical.byContradiction fun h => h3 ⟨h1, h2, h⟩
    · intro h
      obtain ⟨h1, h2⟩ := rng_den ra h
      exact ⟨h1, h2, fun h3 => h3.2.2 h⟩
  have c2 : AB = aB := nrm_uniq nAB naB fun x => by
    rw [dAB, daB, dab, dA, dB]
    constructor
    · rintro ⟨h1, h2, h3⟩
      exact ⟨⟨h1, h2, fun h => h3 (.inl h)⟩, ⟨h1, h2, fun h => h3 (.inr h)⟩⟩
    · rintro ⟨⟨h1, h2, h3⟩, ⟨_, _, h4⟩⟩
      exact ⟨h1, h2, fun h => h.elim h3 h4⟩
  have c3 : abc = pq := nrm_uniq nabc npq fun x => by
    rw [dabc, dpq, dbc, dp, dq]
    exact and_or_left
  have c4 : aA = N := nrm_uniq naA nN fun x => by
    rw [daA, dN, dA]
    constructor
    · rintro (h | h)
      · obtain ⟨h1, h2⟩ := rng_den ra h
        exact ⟨h1, h2, den_nil x⟩
      · exact ⟨h.1, h.2.1, den_nil x⟩
    · rintro ⟨h1, h2, _⟩
      by_cases h : den a x
      · exact .inl h
      · exact .inr ⟨h1, h2, h⟩
  have c5 : z = [] := len0 nz fun x h => by
    rw [dz, dA] at h
    exact h.2.2.2 h.1
  have c6 : o = a := nrm_uniq no na fun x => by
    rw [do_]
    simp
  have c7 : e = [] := len0 ne fun x h => by
    rw [de] at h
    exact den_nil x h
  have c8 : ba = ab := nrm_uniq nba nab fun x => by
    rw [dba, dab]
    exact or_comm
  rw [F4_eq]
  simp only [fa, fb, fc, fA, fAA, fB, fab, fAB, faB, fbc, fabc, fp, fq, fpq, faA, fN, fz, fo, fe, fba, Option.bind_some]
  have labc' : abc.length ≤ 72 := Nat.le_trans labc (Nat.le_trans (Nat.mul_le_mul la (show bc.length ≤ 12 by omega)) (by decide))
  rw [same_is (by omega) c1, Option.bind_some, cond_true, same_is (by omega) c2, Option.bind_some, cond_true, same_is (by omega) c3, Option.bind_some, cond_true, same_is (by omega) c4, Option.bind_some, cond_true, c5, c7]
  have lo' : o.length ≤ 6 := by rw [c6]; exact la
  rw [same_is (by omega) c6, Option.bind_some, same_is (by omega) c8]
  rfl
end Go.Vx.Z
