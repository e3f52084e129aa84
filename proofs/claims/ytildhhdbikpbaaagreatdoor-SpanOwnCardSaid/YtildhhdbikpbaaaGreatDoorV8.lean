import Derived.Test.YtildhhdbikpbaaaGreatDoorV7
set_option linter.unusedSimpArgs false
/-! SpanOps -/
namespace Go.Vx.Z
open Go Go.Vx
set_option linter.unusedVariables false
set_option maxRecDepth 100000
theorem obs {α β : Type} (x : α) (f : α → Option β) : Option.bind (some x) f = f x := by
  have h : ∀ o : Option α, o = some x → o.bind f = f x := by
    intro o ho
    subst ho
    rfl
  exact h _ rfl
theorem or3_says (a b c : List Span) (ha : Nrm a) (hb : Nrm b) (hc : Nrm c) (hl : a.length + b.length + c.length ≤ 1000000) : ∃ R, F17 ([a, b, c], ()) = some (R, ()) ∧ Nrm R ∧ (∀ x, den R x ↔ den a x ∨ den b x ∨ den c x) ∧ R.length ≤ a.length + b.length + c.length := by
  have e : [a, b, c].flatten = a ++ (b ++ c) := by simp
  obtain ⟨R, h1, h2, h3, h4⟩ := or_says [a, b, c] (fun s hs => by
    rw [e] at hs
    rcases List.mem_append.1 hs with h | h
    · exact nrm_ok ha s h
    · rcases List.mem_append.1 h with h | h
      · exact nrm_ok hb s h
      · exact nrm_ok hc s h) (by rw [e, List.length_append, List.length_append]; simp only [big]; omega) (by show 3 ≤ big; decide)
  rw [e] at h3 h4
  exact ⟨R, h1, h2, fun x => by rw [h3, den_append, den_append], by simpa [Nat.add_assoc] using h4⟩
theorem B23_is (l : List Span) (hok : ∀ s ∈ l, okS s = true) (hl : l.length ≤ 1000) : ∀ (d i : Nat) (ps : List Ver), l.length - i = d → i ≤ l.length → ps.length ≤ 4 + 4 * i → (∀ p ∈ ps, okV p = true) →
    ∃ qs : List Ver, loop B23_0 (l, (i : Int), ps, ()) = some (qs, ()) ∧ qs.length ≤ 4 + 4 * l.length ∧ ∀ p ∈ qs, okV p = true
  | 0, i, ps, hd, hi, hp, hq => by
    obtain rfl : i = l.length := by omega
    refine ⟨ps, loop_end ?_, hp, hq⟩
    rw [B23_0_eq]
    simp only [lt_out, cond_false]
  | d + 1, i, ps, hd, hi, hp, hq => by
    have h : i < l.length := by omega
    have hs := hok _ (List.getElem_mem h)
    simp only [okS, Bool.and_eq_true] at hs
    have h4 : ∀ a b c e : R5, decide (ps.length + [a, b, c, e].length ≤ 3518437208883) = true := fun a b c e => decide_eq_true (by simp only [List.length_cons, List.length_nil]; omega)
    obtain ⟨qs, q1, q2, q3⟩ := B23_is l hok hl d (i + 1) (ps ++ [l[i].lo, l[i].hi, (l[i].1, l[i].2.1, l[i].2.2.1, lit [], ()), (l[i].2.2.2.2.1, l[i].2.2.2.2.2.1, l[i].2.2.2.2.2.2.1, lit [48], ())]) (by omega) h (by simp; omega) (fun p hp' => by
      rcases List.mem_append.1 hp' with h | h
      · exact hq p h
      · simp only [List.mem_cons, List.not_mem_nil, or_false] at h
        rcases h with rfl | rfl | rfl | rfl
        · exact hs.1
        · exact hs.2
        · rfl
        · rfl)
    refine ⟨qs, loop_step ?_ q1, q2, q3⟩
    rw [B23_0_eq]
    simp only [lt_in h, cond_true, ge_zero, at_in h, Option.bind_some, h4, wrap_next h (show l.length ≤ _ by omega)]
    rfl
theorem F23_is (l : List Span) (hok : ∀ s ∈ l, okS s = true) (hl : l.length ≤ 1000) (n m : Int) : ∃ qs : List Ver, F23 (l, n, m, ()) = some (qs, ()) ∧ qs.length ≤ 4 + 4 * l.length ∧ ∀ p ∈ qs, okV p = true := by
  obtain ⟨u, h1, hu⟩ := F32_is n m
  obtain ⟨qs, q1, q2, q3⟩ := B23_is l hok hl _ 0 [u, least, (0, 0, 0, lit [], ()), (999999, 999999, 999999, lit [], ())] rfl (Nat.zero_le _) (by simp) (fun p hp => by
    simp only [List.mem_cons, List.not_mem_nil, or_false] at hp
    rcases hp with rfl | rfl | rfl | rfl
    · exact okMk_V hu
    · rfl
    · rfl
    · rfl)
  refine ⟨qs, ?_, q2, q3⟩
  rw [F23_eq, h1, Option.bind_some, F27_eq, Option.bind_some]
  have q1' : loop B23_0 (l, Int.ofNat 0, [(u.1, u.2.1, u.2.2.1, u.2.2.2.1, ()), (Int.ofNat 0, Int.ofNat 0, Int.ofNat 0, lit [48], ()), (Int.ofNat 0, Int.ofNat 0, Int.ofNat 0, lit [], ()), (Int.ofNat 999999, Int.ofNat 999999, Int.ofNat 999999, lit [], ())], ()) = some (qs, ()) := q1
  rw [q1']
  rfl
def hv (L : List Span) (p : Ver) : Bool := hasK (L.map kOf) (ptV p)
theorem hv_den {L : List Span} {p : Ver} : hv L p = true ↔ den L (ptV p) := hasK_mem
theorem ops_step (a b c x y z : List Span) (ps : List Ver) (hp : ∀ p ∈ ps, okV p = true) (hps : ps.length ≤ big) (ha : Nrm a) (hb : Nrm b) (hc : Nrm c) (hx : Nrm x) (hy : Nrm y) (hz : Nrm z) (la : a.length ≤ big) (lb : b.length ≤ big) (lc : c.length ≤ big) (lx : x.length ≤ big) (ly : y.length ≤ big) (lz : z.length ≤ big)
    (dx : ∀ p, den x p ↔ den a p ∧ den b p) (dy : ∀ p, den y p ↔ den a p ∨ den b p ∨ den c p) (dz : ∀ p, den z p ↔ pBeg ≤ p ∧ p < pEnd ∧ ¬ den a p) (i : Nat) (h : i < ps.length) :
    B3_0 (a, b, c, x, y, z, ps, (i : Int), ()) = some (.inl (a, b, c, x, y, z, ps, ((i + 1 : Nat) : Int), ())) := by
  have hv1 := hp _ (List.getElem_mem h)
  rw [B3_0_eq]
  simp only [lt_in h, cond_true, ge_zero, at_in h, obs, wrap_next h (show ps.length ≤ _ by simp only [big] at hps; omega)]
  generalize ps[i] = p at *
  have fa : F24 (a, p.1, p.2.1, p.2.2.1, p.2.2.2.1, ()) = some (hv a p, ()) := F24_is a p (nrm_ok ha) hv1 la
  have fb : F24 (b, p.1, p.2.1, p.2.2.1, p.2.2.2.1, ()) = some (hv b p, ()) := F24_is b p (nrm_ok hb) hv1 lb
  have fc : F24 (c, p.1, p.2.1, p.2.2.1, p.2.2.2.1, ()) = some (hv c p, ()) := F24_is c p (nrm_ok hc) hv1 lc
  have fx : F24 (x, p.1, p.2.1, p.2.2.1, p.2.2.2.1, ()) = some (hv x p, ()) := F24_is x p (nrm_ok hx) hv1 lx
  have fy : F24 (y, p.1, p.2.1, p.2.2.1, p.2.2.2.1, ()) = some (hv y p, ()) := F24_is y p (nrm_ok hy) hv1 ly
  have fz : F24 (z, p.1, p.2.1, p.2.2.1, p.2.2.2.1, ()) = some (hv z p, ()) := F24_is z p (nrm_ok hz) hv1 lz
  have ra : F25 (a, p.1, p.2.1, p.2.2.1, p.2.2.2.1, ()) = some (hv a p, ()) := F25_is a p (nrm_ok ha) hv1 la
  have rc : F26 (p.1, p.2.1, p.2.2.1, p.2.2.2.1, Int.ofNat 0, Int.ofNat 0, Int.ofNat 0, lit [48], ()) = some (cmpV p least, ()) := F26_is p least hv1 rfl
  have ex : hv x p = (hv a p && hv b p) := by
    rw [Bool.eq_iff_iff, Bool.and_eq_true, hv_den, hv_den, hv_den]; exact dx _
  have ey : hv y p = (hv a p || (hv b p || hv c p)) := by
    rw [Bool.eq_iff_iff, Bool.or_eq_true, Bool.or_eq_true, hv_den, hv_den, hv_den, hv_den]; exact dy _
  have ez : decide (cmpV p least ≥ Int.ofNat 0) = true → hv z p = !hv a p := fun hge => by
    have hge : (0 : Int) ≤ cmpV p least := of_decide_eq_true hge
    rw [Bool.eq_iff_iff, Bool.not_eq_true', ← Bool.not_eq_true, hv_den, hv_den, dz]
    have h1 : pBeg ≤ ptV p := pBeg_le false (by rw [cmpV_swap p least]; omega)
    have h2 : ptV p < pEnd := lt_end p false
    exact ⟨fun h => h.2.2, fun h => ⟨h1, h2, h⟩⟩
  have f27 : F27 () = some (Int.ofNat 0, Int.ofNat 0, Int.ofNat 0, lit [48], ()) := F27_eq
  simp only [fa, fb, fc, fx, fy, fz, ra, f27, rc, obs, ex, ey]
  generalize hqz : hv z p = qz at *
  generalize decide (cmpV p least ≥ Int.ofNat 0) = cc at *
  generalize (p.1 == Int.ofNat 0 && (p.2.1 == Int.ofNat 0 && (p.2.2.1 == Int.ofNat 0 && bl p.2.2.2.1 == []))) = e0
  cases cc with
  | true =>
    have := ez rfl
    subst this
    cases hv a p <;> cases hv b p <;> cases hv c p <;> cases e0 <;> rfl
  | false => cases hv a p <;> cases hv b p <;> cases hv c p <;> cases qz <;> cases e0 <;> rfl
theorem pure_SpanOps (x0 x1 x2 : List Int) (x3 x4 : Int) (h0 : ∀ x ∈ x0, (Lit.int .i64 x).wf = true) (h1 : ∀ x ∈ x1, (Lit.int .i64 x).wf = true) (h2 : ∀ x ∈ x2, (Lit.int .i64 x).wf = true) (h3 : (Lit.int .i64 x3).wf = true) (h4 : (Lit.int .i64 x4).wf = true) : F3 (x0, x1, x2, x3, x4, ()) = some (true, ()) := by
  obtain ⟨a, fa, na, ra, la, _⟩ := make_is x0
  obtain ⟨b, fb, nb, rb, lb, _⟩ := make_is x1
  obtain ⟨c, fc, nc, rc, lc, _⟩ := make_is x2
  obtain ⟨x, fx, nx, dx, lx⟩ := and_says a b na nb (by omega) (by omega)
  have lx' : x.length ≤ 36 := Nat.le_trans lx (Nat.mul_le_mul la lb)
  obtain ⟨y, fy, ny, dy, ly⟩ := or3_says a b c na nb nc (by omega)
  obtain ⟨z, fz, nz, rz, dz, lz⟩ := not_says a na ra (by simp only [big]; omega)
  obtain ⟨X, fX, nX, dX⟩ := rand_says a b na nb ra rb (by simp only [big]; omega)
  obtain ⟨ab, fab, nab, dab, lab⟩ := ror_says a b (nrm_ok na) (nrm_ok nb) (by simp only [big]; omega)
  obtain ⟨Y, fY, nY, dY, lY⟩ := ror_says ab c (nrm_ok nab) (nrm_ok nc) (by simp only [big]; omega)
  obtain ⟨Z, fZ, nZ, rZ, dZ, lZ⟩ := rnot_says a na ra (by simp only [big]; omega)
  have c1 : x = X := nrm_uniq nx nX fun p => by rw [dx, dX]
  have c2 : y = Y := nrm_uniq ny nY fun p => by rw [dy, dY, dab, or_assoc]
  have c3 : z = Z := nrm_uniq nz nZ fun p => by rw [dz, dZ]
  rw [F3_eq]
  simp only [fa, fb, fc, fx, fy, fz, fX, fab, fY, fZ, Option.bind_some]
  rw [same_is (by omega) c1, Option.bind_some, same_is (by omega) c2, Option.bind_some, same_is (by omega) c3, Option.bind_some]
  have e1 : decide (0 + a.length ≤ 1599289640401) = true := decide_eq_true (by omega)
  have e2 : decide ((([] : List Span) ++ a).length + b.length ≤ 1599289640401) = true := decide_eq_true (by rw [List.nil_append]; omega)
  simp only [Bool.not_true, cond_false, e1, e2, cond_true]
  obtain ⟨ps, q1, q2, q3⟩ := F23_is (a ++ b) (fun s hs => by
    rcases List.mem_append.1 hs with h | h
    · exact nrm_ok na s h
    · exact nrm_ok nb s h) (by simp; omega) x3 x4
  rw [List.length_append] at q2
  rw [List.nil_append, q1, Option.bind_some]
  have hb : big = 1099511627776 := rfl
  have := loop_row (B := B3_0) (fun i => (a, b, c, x, y, z, ps, (i : Int), ())) ps.length (e := .inr ()) (fun i hi => ops_step a b c x y z ps q3 (by omega) na nb nc nx ny nz (by omega) (by omega) (by omega) (by omega) (by omega) (by omega) dx dy dz i hi) (by
    rw [B3_0_eq]
    simp only [lt_out, cond_false])
  have h0' : loop B3_0 (a, b, c, x, y, z, ps, Int.ofNat 0, ()) = some (.inr ()) := this
  rw [h0']
  rfl
end Go.Vx.Z
