import Derived.Test.YtildhhdbikpbaaaGreatDoorV8
set_option linter.unusedSimpArgs false
/-! SpanNormed -/
namespace Go.Vx.Z
open Go Go.Vx
set_option linter.unusedVariables false
set_option maxRecDepth 100000
theorem open_last {L : List Span} (h : Nrm L) {k : Nat} (hk : k < L.length) (ho : L[k].op = true) : ¬ k + 1 < L.length := by
  intro hlt
  have h1 := h.1.1
  rw [List.pairwise_map] at h1
  have h2 := List.pairwise_iff_getElem.1 h1 k (k + 1) hk hlt (by omega)
  rw [kOf_2, if_pos ho, kOf_1] at h2
  exact end_lt _ _ h2
theorem B8_0_is (ls : List (List Span)) (i : Nat) (hi : i < ls.length) (hn : Nrm ls[i]) (hl : ls[i].length ≤ big) : loop B8_0 ((i : Int), Int.ofNat 0, ls, ()) = some (.inr ((i : Int), ls, ())) := by
  have := loop_row (B := B8_0) (fun k => ((i : Int), (k : Int), ls, ())) ls[i].length (e := .inr ((i : Int), ls, ())) (fun k hk => by
    rw [B8_0_eq]
    simp only [ge_zero, cond_true, at_in hi, obs, lt_in hk, at_in hk, wrap_next hk (show ls[i].length ≤ _ by simp only [big] at hl; omega)]
    cases ho : ls[i][k].2.2.2.2.2.2.2.2.2.2.1 with
    | false => rfl
    | true =>
      have h1 := open_last hn hk ho
      have h2 : decide (((k + 1 : Nat) : Int) < Int.ofNat ls[i].length) = false := decide_eq_false (by show ¬ ((k + 1 : Nat) : Int) < (ls[i].length : Int); omega)
      obtain ⟨h3, h4⟩ := (hn.2 _ (List.getElem_mem hk)).2 ho
      have h4 : ls[i][k].2.2.2.2.2.2.2.2.2.1 = false := h4
      simp only [Span.hi, v0, Prod.mk.injEq] at h3
      obtain ⟨g1, g2, g3, g4, _⟩ := h3
      simp only [h2, h4, g1, g2, g3, g4, cond_true, cond_false]
      rfl) (by
    rw [B8_0_eq]
    simp only [ge_zero, cond_true, at_in hi, obs, lt_out, cond_false])
  exact this
theorem norm_self {L : List Span} (h : Nrm L) (hl : L.length < big) : F36 (L, ()) = some (L, ()) := by
  obtain ⟨R, h1, h2, h3, _⟩ := norm_says L (nrm_ok h) hl
  rw [h1, nrm_uniq h2 h h3]
theorem pure_SpanNormed (x0 x1 : List Int) (h0 : ∀ x ∈ x0, (Lit.int .i64 x).wf = true) (h1 : ∀ x ∈ x1, (Lit.int .i64 x).wf = true) : F8 (x0, x1, ()) = some (true, ()) := by
  obtain ⟨a, fa, na, ra, la, _⟩ := make_is x0
  obtain ⟨b, fb, nb, rb, lb, _⟩ := make_is x1
  obtain ⟨x, fx, nx, dx, lx⟩ := and_says a b na nb (by omega) (by omega)
  have lx' : x.length ≤ 36 := Nat.le_trans lx (Nat.mul_le_mul la lb)
  obtain ⟨y, fy, ny, dy, ly⟩ := or2_says a b na nb (by omega)
  obtain ⟨z, fz, nz, rz, dz, lz⟩ := not_says a na ra (by simp only [big]; omega)
  have hb : big = 1099511627776 := rfl
  have hall : ∀ i (h : i < [x, y, z].length), Nrm [x, y, z][i] ∧ [x, y, z][i].length ≤ 1000000 := by
    intro i h
    match i, h with
    | 0, _ => exact ⟨nx, by show x.length ≤ _; omega⟩
    | 1, _ => exact ⟨ny, by show y.length ≤ _; omega⟩
    | 2, _ => exact ⟨nz, by show z.length ≤ _; omega⟩
  rw [F8_eq]
  simp only [fa, fb, fx, fy, fz, obs]
  have h3 : [x, y, z].length = 3 := rfl
  generalize [x, y, z] = ls at *
  have := loop_row (B := B8_1) (fun i => ((i : Int), ls, ())) 3 (e := .inr ()) (fun i hi => by
    obtain ⟨n1, n2⟩ := hall i (by omega)
    have hi' : i < ls.length := by omega
    have e1 : decide ((i : Int) < Int.ofNat 3) = true := decide_eq_true (by show (i : Int) < 3; omega)
    rw [B8_1_eq]
    simp only [e1, ge_zero, cond_true, at_in hi', obs]
    rw [norm_self n1 (by omega), obs, same_is n2 rfl, obs]
    simp only [Bool.not_true, cond_false]
    rw [B8_0_is ls i hi' n1 (by omega), obs]
    simp only [Sum.elim_inr, wrap_next hi (show 3 ≤ _ by omega)]) (by
    rw [B8_1_eq]
    rfl)
  have h0' : loop B8_1 (Int.ofNat 0, ls, ()) = some (.inr ()) := this
  rw [h0', obs]
  rfl
end Go.Vx.Z
/-! Numbers, versions as texts. -/
namespace Go.Vx
open Go
set_option linter.unusedVariables false
/-- The number that digits are. -/
def numB (l : List UInt8) : Nat := l.foldl (fun n c => 10 * n + (c.toNat - 48)) 0
theorem numB_snoc (l : List UInt8) (c : UInt8) : numB (l ++ [c]) = 10 * numB l + (c.toNat - 48) := by simp [numB]
theorem dig_toNat {d : Nat} (h : d < 10) : (UInt8.ofNat (48 + d)).toNat = 48 + d := by
  rw [UInt8.toNat_ofNat']
  omega
theorem dec_small {u : Nat} (h : u < 10) : Lib.decDigits u = [UInt8.ofNat (48 + u)] := by rw [Lib.decDigits, dif_pos h]
theorem dec_big {u : Nat} (h : ¬ u < 10) : Lib.decDigits u = Lib.decDigits (u / 10) ++ [UInt8.ofNat (48 + u % 10)] := by rw [Lib.decDigits, dif_neg h]
theorem dec_all (u : Nat) : ∀ c ∈ Lib.decDigits u, dig1 c = true := by
  induction u using Nat.strongRecOn with
  | _ u ih =>
    have hd : ∀ d, d < 10 → dig1 (UInt8.ofNat (48 + d)) = true := fun d h => by
      unfold dig1
      rw [dig_toNat h]
      simp
      omega
    intro c hc
    by_cases h : u < 10
    · rw [dec_small h, List.mem_singleton] at hc
      rw [hc]; exact hd u h
    · rw [dec_big h] at hc
      rcases List.mem_append.1 hc with hc | hc
      · exact ih (u / 10) (by omega) c hc
      · rw [List.mem_singleton.1 hc]; exact hd _ (Nat.mod_lt _ (by omega))
theorem dec_num (u : Nat) : numB (Lib.decDigits u) = u := by
  induction u using Nat.strongRecOn with
  | _ u ih =>
    by_cases h : u < 10
    · rw [dec_small h]
      show 10 * 0 + ((UInt8.ofNat (48 + u)).toNat - 48) = u
      rw [dig_toNat h]; omega
    · rw [dec_big h, numB_snoc, ih (u / 10) (by omega), dig_toNat (Nat.mod_lt _ (by omega))]
      omega
theorem dec_ne (u : Nat) : Lib.decDigits u ≠ [] := by
  by_cases h : u < 10
  · rw [dec_small h]; simp
  · rw [dec_big h]; simp
theorem dec_head (u : Nat) : ∀ c l, Lib.decDigits u = c :: l → l ≠ [] → c ≠ 48 := by
  induction u using Nat.strongRecOn with
  | _ u ih =>
    intro c l hc hl
    by_cases h : u < 10
    · rw [dec_small h] at hc
      injection hc with _ hc
      exact absurd hc.symm hl
    · rw [dec_big h] at hc
      cases hd : Lib.decDigits (u / 10) with
      | nil => exact absurd hd (dec_ne _)
      | cons d m =>
        rw [hd] at hc
        injection hc with h1 h2
        subst h1
        by_cases hm : m = []
        · subst hm
          have h3 : u / 10 < 10 := by
            by_cases h4 : u / 10 < 10
            · exact h4
            · rw [dec_big h4] at hd
              have := congrArg List.length hd
              simp only [List.length_append, List.length_cons, List.length_nil] at this
              have h5 := List.length_pos_iff.2 (dec_ne (u / 10 / 10))
              omega
          rw [dec_small h3] at hd
          injection hd with hd _
          intro he
          rw [he] at hd
          have := congrArg UInt8.toNat hd
          rw [dig_toNat h3] at this
          have h6 : (48 : UInt8).toNat = 48 := rfl
          omega
        · exact ih (u / 10) (by omega) d m hd hm
theorem dec_len {u : Nat} : ∀ k, u < 10 ^ (k + 1) → (Lib.decDigits u).length ≤ k + 1 := by
  intro k
  induction k generalizing u with
  | zero => intro h; rw [dec_small (by omega)]; simp
  | succ k ih =>
    intro h
    by_cases h1 : u < 10
    · rw [dec_small h1]; simp
    · rw [dec_big h1, List.length_append]
      have := ih (u := u / 10) (by rw [Nat.pow_succ] at h; omega)
      simp only [List.length_singleton]
      omega
/-- A version as a text. -/
def verT (v : Ver) : List UInt8 := 118 :: (Lib.decDigits v.1.toNat ++ 46 :: (Lib.decDigits v.2.1.toNat ++ 46 :: (Lib.decDigits v.2.2.1.toNat ++ (if bs v.2.2.2.1 = [] then [] else 45 :: bs v.2.2.2.1))))
namespace Z
set_option maxRecDepth 100000
theorem lit_size (l : List UInt8) : (lit l).size = l.length := rfl
theorem FR55_is : ∀ (k u : Nat), u < 10 ^ (k + 1) → u ≤ 999999 → FR55 (k + 1) ((u : Int), ()) = some (lit (Lib.decDigits u), ()) := by
  intro k
  induction k with
  | zero =>
    intro u h hu
    show FX55 (FR55 0) _ = _
    rw [FX55_eq]
    have h1 : decide ((u : Int) ≥ Int.ofNat 10) = false := decide_eq_false (by show ¬ (10 : Int) ≤ u; omega)
    rw [h1, cond_false, dec_small (by omega)]
    have h2 : IntKind.wrap IntKind.u8 (IntKind.wrap IntKind.i64 (Int.ofNat 48 + (u : Int))) = ((48 + u : Nat) : Int) := by
      rw [wrap64 (by show -9223372036854775808 ≤ (48 : Int) + u; omega) (by show (48 : Int) + u ≤ _; omega), wrap8 (by show 0 ≤ (48 : Int) + u; omega) (by show (48 : Int) + u ≤ 255; omega)]
      rfl
    rw [h2]
    rfl
  | succ k ih =>
    intro u h hu
    show FX55 (FR55 (k + 1)) _ = _
    rw [FX55_eq]
    by_cases hc : u < 10
    · have h1 : decide ((u : Int) ≥ Int.ofNat 10) = false := decide_eq_false (by show ¬ (10 : Int) ≤ u; omega)
      rw [h1, cond_false, dec_small hc]
      have h2 : IntKind.wrap IntKind.u8 (IntKind.wrap IntKind.i64 (Int.ofNat 48 + (u : Int))) = ((48 + u : Nat) : Int) := by
        rw [wrap64 (by show -9223372036854775808 ≤ (48 : Int) + u; omega) (by show (48 : Int) + u ≤ _; omega), wrap8 (by show 0 ≤ (48 : Int) + u; omega) (by show (48 : Int) + u ≤ 255; omega)]
        rfl
      rw [h2]
      rfl
    · have h1 : decide ((u : Int) ≥ Int.ofNat 10) = true := decide_eq_true (by show (10 : Int) ≤ u; omega)
      have h2 : IntKind.wrap IntKind.i64 (Int.tdiv (u : Int) (Int.ofNat 10)) = ((u / 10 : Nat) : Int) := tdiv_nat u 10 (by omega)
      have h3 : Int.tmod (u : Int) (Int.ofNat 10) = ((u % 10 : Nat) : Int) := rfl
      have hm : u % 10 < 10 := Nat.mod_lt _ (by omega)
      have h4 := ih (u / 10) (by rw [Nat.pow_succ] at h; omega) (by omega)
      have h5 := ih (u % 10) (Nat.lt_of_lt_of_le hm (by rw [Nat.pow_succ]; exact Nat.le_mul_of_pos_left _ (Nat.pow_pos (by omega)))) (by omega)
      have l1 := dec_len (u := u / 10) 5 (by omega)
      have l2 := dec_len (u := u % 10) 0 (by omega)
      rw [h1, cond_true, h2, h3]
      erw [h4]
      rw [obs]
      erw [h5]
      rw [obs, fits_of (by rw [lit_size, lit_size]; omega), cond_true]
      refine congrArg (fun z => some (z, ())) (bs_inj ?_)
      rw [bs_append, bs_lit, bs_lit, bs_lit, dec_small hm, dec_big hc]
theorem F55_is (u : Nat) (h : u ≤ 999999) : F55 ((u : Int), ()) = some (lit (Lib.decDigits u), ()) := FR55_is 29 u (Nat.lt_of_le_of_lt h (by decide)) h
theorem itoa_is (u : Nat) (h : u ≤ 999999) : FItoa ((u : Int), ()) = some (lit (Lib.decDigits u), ()) := by
  unfold FItoa
  have : (decide (-9223372036854775808 ≤ (u : Int)) && decide ((u : Int) ≤ 9223372036854775807)) = true := by
    rw [Bool.and_eq_true, decide_eq_true_eq, decide_eq_true_eq]; omega
  show (bif (decide (-9223372036854775808 ≤ (u : Int)) && decide ((u : Int) ≤ 9223372036854775807)) then some ((⟨(Lib.itoa (u : Int)).toArray⟩ : ByteArray), ()) else none) = _
  rw [this, cond_true]
  unfold Lib.itoa
  rw [if_neg (by omega)]
  rfl
/-- Numbers as they may be in a version. -/
def okN (v : Ver) : Prop := (0 ≤ v.1 ∧ v.1 ≤ 999999) ∧ (0 ≤ v.2.1 ∧ v.2.1 ≤ 999999) ∧ (0 ≤ v.2.2.1 ∧ v.2.2.1 ≤ 999999) ∧ v.2.2.2.1.size ≤ 40
theorem okMk_N {v : Ver} (h : okMk v) : okN v := ⟨h.1, h.2.1, h.2.2.1, h.2.2.2.1⟩
theorem nil_bs (s : ByteArray) : (bl s == []) = decide (bs s = []) := by
  show (bs s == []) = _
  cases bs s <;> rfl
theorem verT_len {v : Ver} (h : okN v) : (verT v).length ≤ 62 := by
  obtain ⟨h1, h2, h3, h4⟩ := h
  have l1 := dec_len (u := v.1.toNat) 5 (by omega)
  have l2 := dec_len (u := v.2.1.toNat) 5 (by omega)
  have l3 := dec_len (u := v.2.2.1.toNat) 5 (by omega)
  rw [bs_size] at h4
  unfold verT
  split <;> simp only [List.length_cons, List.length_append, List.length_nil] <;> omega
theorem F56_is (v : Ver) (h : okN v) : F56 (v.1, v.2.1, v.2.2.1, v.2.2.2.1, ()) = some (lit (verT v), ()) := by
  obtain ⟨h1, h2, h3, h4⟩ := h
  obtain ⟨A, B, C, s, u⟩ := v
  simp only at h1 h2 h3 h4
  obtain ⟨a, rfl⟩ := Int.eq_ofNat_of_zero_le h1.1
  obtain ⟨b, rfl⟩ := Int.eq_ofNat_of_zero_le h2.1
  obtain ⟨c, rfl⟩ := Int.eq_ofNat_of_zero_le h3.1
  have l1 := dec_len (u := a) 5 (by omega)
  have l2 := dec_len (u := b) 5 (by omega)
  have l3 := dec_len (u := c) 5 (by omega)
  simp only
  rw [F56_eq]
  have e1 := itoa_is a (by omega)
  have e2 := itoa_is b (by omega)
  have e3 := itoa_is c (by omega)
  generalize hA : Lib.decDigits a = DA at *
  generalize hB : Lib.decDigits b = DB at *
  generalize hC : Lib.decDigits c = DC at *
  have fit : ∀ x y : ByteArray, x.size ≤ 1000 → y.size ≤ 1000 → fitsS x y = true := fun x y hx hy => fits_of (by omega)
  simp only [e1, e2, e3, obs]
  rw [fit _ _ (by simp [lit_size]) (by rw [lit_size]; omega), cond_true, fit _ _ (by simp [ByteArray.size_append, lit_size]; omega) (by simp [lit_size]), cond_true, fit _ _ (by simp [ByteArray.size_append, lit_size]; omega) (by rw [lit_size]; omega), cond_true, fit _ _ (by simp [ByteArray.size_append, lit_size]; omega) (by simp [lit_size]), cond_true,
    fit _ _ (by simp [ByteArray.size_append, lit_size]; omega) (by rw [lit_size]; omega), cond_true, nil_bs]
  by_cases hs : bs s = []
  · rw [decide_eq_true hs]
    simp only [Bool.not_true, cond_false]
    refine congrArg (fun z => some (z, ())) (bs_inj ?_)
    simp only [bs_append, bs_lit, verT, if_pos hs, Int.toNat_natCast, hA, hB, hC]
    simp
  · rw [decide_eq_false hs]
    simp only [Bool.not_false, cond_true]
    rw [fit _ _ (by simp [lit_size]) (by omega), cond_true, fit _ _ (by simp [ByteArray.size_append, lit_size]; omega) (by simp [ByteArray.size_append, lit_size]; omega), cond_true]
    refine congrArg (fun z => some (z, ())) (bs_inj ?_)
    simp only [bs_append, bs_lit, verT, if_neg hs, Int.toNat_natCast, hA, hB, hC]
    simp
theorem F33_is (v : Ver) (h : okN v) : F33 (v.1, v.2.1, v.2.2.1, v.2.2.2.1, ()) = some (lit (verT v), ()) := by
  obtain ⟨h1, h2, h3, h4⟩ := h
  obtain ⟨A, B, C, s, u⟩ := v
  simp only at h1 h2 h3 h4
  obtain ⟨a, rfl⟩ := Int.eq_ofNat_of_zero_le h1.1
  obtain ⟨b, rfl⟩ := Int.eq_ofNat_of_zero_le h2.1
  obtain ⟨c, rfl⟩ := Int.eq_ofNat_of_zero_le h3.1
  have l1 := dec_len (u := a) 5 (by omega)
  have l2 := dec_len (u := b) 5 (by omega)
  have l3 := dec_len (u := c) 5 (by omega)
  simp only
  rw [F33_eq]
  have e1 := F55_is a (by omega)
  have e2 := F55_is b (by omega)
  have e3 := F55_is c (by omega)
  generalize hA : Lib.decDigits a = DA at *
  generalize hB : Lib.decDigits b = DB at *
  generalize hC : Lib.decDigits c = DC at *
  have fit : ∀ x y : ByteArray, x.size ≤ 1000 → y.size ≤ 1000 → fitsS x y = true := fun x y hx hy => fits_of (by omega)
  simp only [e1, e2, e3, obs]
  rw [fit _ _ (by simp [lit_size]) (by rw [lit_size]; omega), cond_true, fit _ _ (by simp [ByteArray.size_append, lit_size]; omega) (by simp [lit_size]), cond_true, fit _ _ (by simp [ByteArray.size_append, lit_size]; omega) (by rw [lit_size]; omega), cond_true, fit _ _ (by simp [ByteArray.size_append, lit_size]; omega) (by simp [lit_size]), cond_true,
    fit _ _ (by simp [ByteArray.size_append, lit_size]; omega) (by rw [lit_size]; omega), cond_true, nil_bs]
  by_cases hs : bs s = []
  · rw [decide_eq_true hs]
    simp only [cond_true]
    refine congrArg (fun z => some (z, ())) (bs_inj ?_)
    simp only [bs_append, bs_lit, verT, if_pos hs, Int.toNat_natCast, hA, hB, hC]
    simp
  · rw [decide_eq_false hs]
    simp only [cond_false]
    rw [fit _ _ (by simp [ByteArray.size_append, lit_size]; omega) (by simp [lit_size]), cond_true, fit _ _ (by simp [ByteArray.size_append, lit_size]; omega) (by omega), cond_true]
    refine congrArg (fun z => some (z, ())) (bs_inj ?_)
    simp only [bs_append, bs_lit, verT, if_neg hs, Int.toNat_natCast, hA, hB, hC]
    simp
end Z
end Go.Vx
/-! strings.Join at " || ", spans as texts. -/
namespace Go.Vx
open Go
set_option linter.unusedVariables false
def ib (l : List UInt8) : List Int := l.map fun b => Int.ofNat b.1.1.1
theorem ib_append (a b : List UInt8) : ib (a ++ b) = ib a ++ ib b := by simp [ib]
theorem ib_ok (l : List UInt8) : okBytes (ib l) = true := by
  unfold okBytes
  rw [List.all_eq_true]
  intro n hn
  obtain ⟨b, _, rfl⟩ := List.mem_map.1 hn
  unfold isByte
  rw [Bool.and_eq_true, decide_eq_true_eq, decide_eq_true_eq]
  have := b.toNat_lt
  exact ⟨Int.natCast_nonneg _, by show ((b.toNat : Nat) : Int) ≤ 255; omega⟩
theorem bstr_ib (l : List UInt8) : bstr (ib l) = lit l := by
  have key : ∀ (l : List UInt8) (r : ByteArray), (ib l).foldl (fun r n => r.push (UInt8.ofNat n.toNat)) r = ⟨r.data ++ l.toArray⟩ := by
    intro l
    induction l with
    | nil => intro r; simp [ib]
    | cons b l ih =>
      intro r
      have h : ib (b :: l) = Int.ofNat b.1.1.1 :: ib l := rfl
      have h2 : UInt8.ofNat (Int.ofNat b.1.1.1).toNat = b := by
        show UInt8.ofNat b.toNat = b
        exact UInt8.ofNat_toNat
      rw [h, List.foldl_cons, ih, h2]
      simp [ByteArray.push]
  unfold bstr
  rw [key]
  apply bs_inj
  show (ByteArray.empty.data ++ l.toArray).toList = l
  rw [Array.toList_append]
  rfl
/-- Words, parted by " || ". -/
def jS : List (List UInt8) → List UInt8
  | [] => []
  | [w] => w
  | w :: v :: l => w ++ ([32, 124, 124, 32] ++ jS (v :: l))
theorem jS_fold : ∀ (l : List (List UInt8)) (w : List UInt8), l.foldl (fun a y => a ++ [32, 124, 124, 32] ++ y) w = jS (w :: l)
  | [], w => rfl
  | v :: l, w => by
    rw [List.foldl_cons, jS_fold l]
    cases l with
    | nil => simp [jS]
    | cons u l => simp [jS]
namespace Z
set_option maxRecDepth 100000
abbrev sep : ByteArray := lit [32, 124, 124, 32]
theorem F89_is (x : ByteArray) (r : List Int) (h : r.length + x.size ≤ 100000000) : F89 (x, r, ()) = some (Int.ofNat x.size, r ++ ib (bs x), ()) := by
  rw [F89_eq, F110v1_eq, obs]
  have : decide (r.length + x.size ≤ 140737488355328) = true := decide_eq_true (by omega)
  simp only [this, cond_true]
  rfl
theorem F88_is (n : Nat) (h : n ≤ 100000000) : F88 ((n : Int), ()) = some ([], ()) := by
  rw [F88_eq, F110_eq, obs]
  have e1 : decide ((n : Int) < Int.ofNat 0) = false := by simp
  have e2 : (decide (Int.ofNat 0 ≤ (n : Int)) && decide ((n : Int) ≤ Int.ofNat 140737488355328)) = true := by
    rw [Bool.and_eq_true, decide_eq_true_eq, decide_eq_true_eq]
    exact ⟨by show (0 : Int) ≤ n; omega, by show (n : Int) ≤ 140737488355328; omega⟩
  rw [e1, cond_false, e2, cond_true]
  cases decide (Int.ofNat 0 < (n : Int)) <;> rfl
theorem F90_is (l : List UInt8) : F90 (ib l, ()) = some (lit l, ()) := by
  rw [F90_eq]
  have : (Int.ofNat (ib l).length == Int.ofNat (ib l).length && okBytes (ib l)) = true := by rw [ib_ok]; simp
  rw [this, cond_true, bstr_ib]
def sizes (ws : List ByteArray) : Nat := (ws.map ByteArray.size).sum
theorem sizes_le : ∀ (ws : List ByteArray), (∀ w ∈ ws, w.size ≤ 1000) → sizes ws ≤ 1000 * ws.length
  | [], _ => by simp [sizes]
  | w :: ws, h => by
    have h1 := sizes_le ws fun v hv => h v (by simp [hv])
    have h2 := h w (by simp)
    simp only [sizes, List.map_cons, List.sum_cons, List.length_cons] at h1 ⊢
    omega
theorem sizes_take {ws : List ByteArray} {i : Nat} (h : i < ws.length) : sizes (ws.take (i + 1)) = sizes (ws.take i) + ws[i].size := by
  unfold sizes
  rw [List.take_succ_eq_append_getElem h, List.map_append, List.sum_append]
  simp only [List.map_cons, List.map_nil, List.sum_cons, List.sum_nil, Nat.add_zero]
theorem B57_0_is (x0 : List ByteArray) (x1 : ByteArray) (ws : List ByteArray) (hl : ws.length ≤ 100) (hw : ∀ w ∈ ws, w.size ≤ 1000) (s : Nat) (hs : s ≤ 100000) :
    loop B57_0 (x0, x1, (s : Int), ws, Int.ofNat ws.length, Int.ofNat 0, ()) = some (x0, x1, ((s + sizes ws : Nat) : Int), ()) := by
  have := loop_row (B := B57_0) (fun i => (x0, x1, ((s + sizes (ws.take i) : Nat) : Int), ws, Int.ofNat ws.length, (i : Int), ())) ws.length (e := (x0, x1, ((s + sizes ws : Nat) : Int), ())) (fun i hi => by
    have h1 := sizes_take hi
    have h2 := sizes_le (ws.take (i + 1)) fun w h => hw w (List.mem_of_mem_take h)
    rw [List.length_take] at h2
    have h3 := hw _ (List.getElem_mem hi)
    rw [B57_0_eq]
    have e1 : IntKind.wrap IntKind.i64 (Int.ofNat 9223372036854775807 - ((s + sizes (ws.take i) : Nat) : Int)) = 9223372036854775807 - ((s + sizes (ws.take i) : Nat) : Int) := by
      show IntKind.wrap IntKind.i64 (9223372036854775807 - ((s + sizes (ws.take i) : Nat) : Int)) = _
      exact wrap64 (by omega) (by omega)
    have e2 : decide (Int.ofNat ws[i].size > 9223372036854775807 - ((s + sizes (ws.take i) : Nat) : Int)) = false := decide_eq_false (by show ¬ (9223372036854775807 - ((s + sizes (ws.take i) : Nat) : Int) < (ws[i].size : Int)); omega)
    have e3 : IntKind.wrap IntKind.i64 (((s + sizes (ws.take i) : Nat) : Int) + Int.ofNat ws[i].size) = ((s + sizes (ws.take (i + 1)) : Nat) : Int) := by
      show IntKind.wrap IntKind.i64 (((s + sizes (ws.take i) : Nat) : Int) + (ws[i].size : Int)) = _
      rw [wrap64 (by omega) (by omega)]; omega
    simp only [lt_in hi, cond_true, ge_zero, at_in hi, obs, e1, e2, e3, cond_false, wrap_next hi (show ws.length ≤ _ by omega)]) (by
    rw [B57_0_eq]
    simp only [lt_out, cond_false, List.take_length])
  exact this
theorem B57_1_is (ws : List ByteArray) (hl : ws.length ≤ 100) (hw : ∀ w ∈ ws, w.size ≤ 1000) (a : List UInt8) (ha : a.length ≤ 100000) :
    loop B57_1 (sep, ws, Int.ofNat ws.length, Int.ofNat 0, ib a, ()) = some (ib ((ws.map bs).foldl (fun a y => a ++ [32, 124, 124, 32] ++ y) a), ()) := by
  have := loop_fold (B := B57_1) ws (fun i (b : List UInt8) => (sep, ws, Int.ofNat ws.length, (i : Int), ib b, ())) (fun b y => b ++ [32, 124, 124, 32] ++ bs y) (fun b => (ib b, ())) a (fun i b => b.length ≤ 100000 + 1004 * i) (by omega)
    (fun i h b hb => by
      have h3 := hw _ (List.getElem_mem h)
      have hz : (bs ws[i]).length = ws[i].size := (bs_size _).symm
      refine ⟨?_, by simp only [List.length_append, hz, List.length_cons, List.length_nil]; omega⟩
      have l1 : (ib b).length = b.length := by simp [ib]
      have l2 : (ib (b ++ [32, 124, 124, 32])).length = b.length + 4 := by simp [ib]
      have ls : (lit [32, 124, 124, 32]).size = 4 := rfl
      rw [B57_1_eq]
      simp only [lt_in h, cond_true, ge_zero, at_in h, obs, wrap_next h (show ws.length ≤ _ by omega)]
      rw [F89_is sep (ib b) (by rw [l1, ls]; omega), obs]
      simp only
      rw [← ib_append, bs_lit, F89_is ws[i] _ (by rw [l2]; omega), obs]
      simp only
      rw [← ib_append]) (fun b hb => by
      rw [B57_1_eq]
      simp only [lt_out, cond_false])
  rw [List.foldl_map]
  exact this
theorem F57_is (ws : List ByteArray) (hl : ws.length ≤ 100) (hw : ∀ w ∈ ws, w.size ≤ 1000) : F57 (ws, sep, ()) = some (lit (jS (ws.map bs)), ()) := by
  rw [F57_eq]
  match ws, hl, hw with
  | [], _, _ => rfl
  | [w], _, _ =>
    refine congrArg (fun z => some (z, ())) (bs_inj ?_)
    rfl
  | w :: v :: l, hl, hw =>
    have hn : (w :: v :: l).length = l.length + 2 := rfl
    generalize hws : w :: v :: l = ws at *
    have c0 : (Int.ofNat ws.length == Int.ofNat 0) = false := by rw [hn]; rfl
    have c1 : (Int.ofNat ws.length == Int.ofNat 1) = false := by
      rw [← Bool.not_eq_true]; intro h
      have := Int.ofNat.inj (by simpa using h : Int.ofNat ws.length = Int.ofNat 1)
      omega
    have c2 : decide (Int.ofNat (ByteArray.size sep) > Int.ofNat 0) = true := rfl
    have c3 : IntKind.wrap IntKind.i64 (Int.ofNat ws.length - Int.ofNat 1) = ((ws.length - 1 : Nat) : Int) := by
      show IntKind.wrap IntKind.i64 ((ws.length : Int) - 1) = _
      rw [wrap64 (by omega) (by omega)]; omega
    have c4 : (!decide (((ws.length - 1 : Nat) : Int) = Int.ofNat 0)) = true := by
      rw [decide_eq_false (by show ¬ ((ws.length - 1 : Nat) : Int) = 0; omega)]; rfl
    have c5 : IntKind.wrap IntKind.i64 (Int.tdiv (Int.ofNat 9223372036854775807) ((ws.length - 1 : Nat) : Int)) = ((9223372036854775807 / (ws.length - 1) : Nat) : Int) := by
      have e : Int.tdiv (Int.ofNat 9223372036854775807) ((ws.length - 1 : Nat) : Int) = ((9223372036854775807 / (ws.length - 1) : Nat) : Int) := rfl
      rw [e]
      have hle := Nat.div_le_self 9223372036854775807 (ws.length - 1)
      generalize 9223372036854775807 / (ws.length - 1) = q at *
      exact wrap64 (by omega) (by omega)
    have c6 : decide (Int.ofNat (ByteArray.size sep) ≥ ((9223372036854775807 / (ws.length - 1) : Nat) : Int)) = false := by
      apply decide_eq_false
      show ¬ ((9223372036854775807 / (ws.length - 1) : Nat) : Int) ≤ 4
      have h1 : 9223372036854775807 / 100 ≤ 9223372036854775807 / (ws.length - 1) := Nat.div_le_div_left (by omega) (by omega)
      have h2 : 9223372036854775807 / 100 = 92233720368547758 := rfl
      rw [h2] at h1
      generalize 9223372036854775807 / (ws.length - 1) = q at *
      omega
    have c7 : IntKind.wrap IntKind.i64 (Int.ofNat 0 + IntKind.wrap IntKind.i64 (Int.ofNat (ByteArray.size sep) * ((ws.length - 1 : Nat) : Int))) = ((4 * (ws.length - 1) : Nat) : Int) := by
      show IntKind.wrap IntKind.i64 (0 + IntKind.wrap IntKind.i64 (4 * ((ws.length - 1 : Nat) : Int))) = _
      rw [wrap64 (x := 4 * ((ws.length - 1 : Nat) : Int)) (by omega) (by omega), Int.zero_add, wrap64 (by omega) (by omega)]
      omega
    have c8 : (decide (Int.ofNat 1 ≤ Int.ofNat ws.length) && decide (Int.ofNat ws.length ≤ Int.ofNat ws.length)) = true := by
      rw [Bool.and_eq_true, decide_eq_true_eq, decide_eq_true_eq]
      exact ⟨by show (1 : Int) ≤ ws.length; omega, Int.le_refl _⟩
    have hsz := sizes_le ws hw
    have hsw : w.size ≤ 1000 := hw w (by rw [← hws]; simp)
    have h0 : ws[0]? = some w := by rw [← hws]; rfl
    have hd : List.drop 1 (List.take (Int.toNat (Int.ofNat ws.length)) ws) = v :: l := by
      show List.drop 1 (List.take ws.length ws) = _
      rw [List.take_length, ← hws]; rfl
    have hb := B57_0_is ws sep ws hl hw (4 * (ws.length - 1)) (by omega)
    simp only [c0, c1, c2, c3, c4, c5, c6, c7, cond_true, cond_false, hb, obs]
    rw [F88_is _ (by omega), obs]
    simp only [h0, obs]
    rw [F89_is w [] (by simp; omega), obs]
    simp only [c8, cond_true, hd, List.nil_append]
    rw [B57_1_is (v :: l) (by simp; omega) (fun x hx => hw x (by rw [← hws]; simp at hx ⊢; exact .inr hx)) (bs w) (by rw [← bs_size]; omega), obs]
    rw [jS_fold, F90_is, obs, ← hws]
    rfl
end Z
end Go.Vx
/-! Spans as texts. -/
namespace Go.Vx.Z
open Go Go.Vx
set_option linter.unusedVariables false
set_option maxRecDepth 100000
def spT (s : Span) : List UInt8 := (if s.above then 40 else 91) :: (verT s.lo ++ 44 :: (if s.op then [41] else verT s.hi ++ [if s.isIn then 93 else 41]))
def textB (L : List Span) : List UInt8 := if L = [] then [45] else jS (L.map spT)
def okSN (s : Span) : Prop := okN s.lo ∧ okN s.hi
theorem spT_len {s : Span} (h : okSN s) : (spT s).length ≤ 130 := by
  have h1 := verT_len h.1
  have h2 := verT_len h.2
  unfold spT
  by_cases hop : s.op = true
  · rw [if_pos hop]; simp only [List.length_cons, List.length_append, List.length_nil]; omega
  · rw [if_neg hop]; simp only [List.length_cons, List.length_append, List.length_nil]; omega
theorem fits_small {x y : ByteArray} (h : x.size + y.size ≤ 100000000) : fitsS x y = true := fits_of (by omega)
theorem B34_0_is (L : List Span) (i : Nat) (hi : i < L.length) (hl : L.length ≤ 1000) (h : okSN L[i]) (b : List ByteArray) (hb : b.length ≤ 1000) :
    B34_0 (L, Int.ofNat L.length, (i : Int), b, ()) = some (.inl (L, Int.ofNat L.length, ((i + 1 : Nat) : Int), b ++ [lit (spT L[i])], ())) := by
  have f1 := F56_is L[i].lo h.1
  have f2 := F56_is L[i].hi h.2
  have l1 := verT_len h.1
  have l2 := verT_len h.2
  simp only [Span.lo, Span.hi] at f1 f2
  have hat := at_in hi
  have hsp : spT L[i] = (if L[i].2.2.2.2.2.2.2.2.1 then 40 else 91) :: (verT L[i].lo ++ 44 :: (if L[i].2.2.2.2.2.2.2.2.2.2.1 then [41] else verT L[i].hi ++ [if L[i].2.2.2.2.2.2.2.2.2.1 then 93 else 41])) := rfl
  rw [hsp]
  simp only [Span.lo, Span.hi] at l1 l2 ⊢
  generalize hU : verT (L[i].1, L[i].2.1, L[i].2.2.1, L[i].2.2.2.1, ()) = U at *
  generalize hV : verT (L[i].2.2.2.2.1, L[i].2.2.2.2.2.1, L[i].2.2.2.2.2.2.1, L[i].2.2.2.2.2.2.2.1, ()) = V at *
  have hone := fun z : ByteArray => one_le (b := b) (N := 8796093022209) z (by omega)
  have hone' : ∀ z : ByteArray, decide (b.length + List.length [z] ≤ 8796093022208) = true := fun z => decide_eq_true (by rw [List.length_singleton]; omega)
  have hw := wrap_next hi (show L.length ≤ 9223372036854775807 by omega)
  have ht : ByteArray.extract (lit [91] ++ lit U ++ lit [44]) 1 (Int.toNat (Int.ofNat (ByteArray.size (lit [91] ++ lit U ++ lit [44])))) = lit U ++ lit [44] := by
    apply bs_inj
    show bs (ByteArray.extract _ 1 (ByteArray.size (lit [91] ++ lit U ++ lit [44]))) = _
    rw [bs_extract, bs_size, List.take_length]
    simp [bs_append, bs_lit]
  have hc : (decide (Int.ofNat 1 ≤ Int.ofNat (ByteArray.size (lit [91] ++ lit U ++ lit [44]))) && decide (Int.ofNat (ByteArray.size (lit [91] ++ lit U ++ lit [44])) ≤ Int.ofNat (ByteArray.size (lit [91] ++ lit U ++ lit [44])))) = true := by
    rw [Bool.and_eq_true, decide_eq_true_eq, decide_eq_true_eq]
    refine ⟨?_, Int.le_refl _⟩
    show (1 : Int) ≤ ((ByteArray.size (lit [91] ++ lit U ++ lit [44]) : Nat) : Int)
    simp only [ByteArray.size_append, lit_size, List.length_cons, List.length_nil]
    omega
  rw [B34_0_eq]
  simp only [lt_in hi, cond_true, ge_zero, hat, obs, f1, f2, hone', hw, ht, hc]
  cases L[i].2.2.2.2.2.2.2.2.1 <;> cases L[i].2.2.2.2.2.2.2.2.2.2.1 <;> cases L[i].2.2.2.2.2.2.2.2.2.1 <;>
    simp (disch := (simp only [ByteArray.size_append, lit_size, List.length_cons, List.length_nil]; omega)) only [fits_small, cond_true, cond_false, if_true, Bool.false_eq_true, if_false] <;>
    refine congrArg (fun z => some (Sum.inl (L, Int.ofNat L.length, ((i + 1 : Nat) : Int), b ++ [z], ()))) (bs_inj ?_) <;>
    simp [bs_append, bs_lit]
theorem F34_is (L : List Span) (hl : L.length ≤ 100) (h : ∀ s ∈ L, okSN s) : F34 (L, ()) = some (lit (textB L), ()) := by
  rw [F34_eq]
  cases hL : L with
  | nil => rfl
  | cons s0 L0 =>
    rw [← hL]
    have c0 : (Int.ofNat L.length == Int.ofNat 0) = false := by rw [hL]; rfl
    have := loop_map (B := B34_0) L (fun i b => (L, Int.ofNat L.length, (i : Int), b, ())) (fun s => lit (spT s)) (fun b => (b, ())) (fun i hi b hb => B34_0_is L i hi (by omega) (h _ (List.getElem_mem hi)) b (by omega)) (fun b hb => by
      rw [B34_0_eq]
      simp only [lt_out, cond_false])
    have h0 : loop B34_0 (L, Int.ofNat L.length, Int.ofNat 0, [], ()) = _ := this
    rw [c0, cond_false, h0, obs]
    have hj := F57_is (L.map fun s => lit (spT s)) (by simpa using hl) (fun w hw => by
      obtain ⟨s, hs, rfl⟩ := List.mem_map.1 hw
      have := spT_len (h s hs)
      rw [lit_size]; omega)
    simp only [hj, obs]
    refine congrArg (fun z => some (lit z, ())) ?_
    unfold textB
    rw [if_neg (by rw [hL]; simp), List.map_map]
    rfl
theorem B35_0_is (L : List Span) (i : Nat) (hi : i < L.length) (hl : L.length ≤ 100) (h : okSN L[i]) (t : List UInt8) (ht : t.length ≤ 200 * i) :
    B35_0 (L, lit t, (i : Int), ()) = some (.inl (L, lit (t ++ (if i = 0 then [] else [32, 124, 124, 32]) ++ spT L[i]), ((i + 1 : Nat) : Int), ())) := by
  have f1 := F33_is L[i].lo h.1
  have f2 := F33_is L[i].hi h.2
  have l1 := verT_len h.1
  have l2 := verT_len h.2
  simp only [Span.lo, Span.hi] at f1 f2
  have hat := at_in hi
  have hsp : spT L[i] = (if L[i].2.2.2.2.2.2.2.2.1 then 40 else 91) :: (verT L[i].lo ++ 44 :: (if L[i].2.2.2.2.2.2.2.2.2.2.1 then [41] else verT L[i].hi ++ [if L[i].2.2.2.2.2.2.2.2.2.1 then 93 else 41])) := rfl
  rw [hsp]
  simp only [Span.lo, Span.hi] at l1 l2 ⊢
  generalize hU : verT (L[i].1, L[i].2.1, L[i].2.2.1, L[i].2.2.2.1, ()) = U at *
  generalize hV : verT (L[i].2.2.2.2.1, L[i].2.2.2.2.2.1, L[i].2.2.2.2.2.2.1, L[i].2.2.2.2.2.2.2.1, ()) = V at *
  have hw := wrap_next hi (show L.length ≤ 9223372036854775807 by omega)
  rw [B35_0_eq]
  simp only [lt_in hi, cond_true, ge_zero, hat, obs, f1, f2, hw]
  by_cases h0 : i = 0
  · have c1 : decide ((i : Int) > Int.ofNat 0) = false := decide_eq_false (by show ¬ (0 : Int) < i; omega)
    simp only [c1, cond_false, if_pos h0]
    cases L[i].2.2.2.2.2.2.2.2.1 <;> cases L[i].2.2.2.2.2.2.2.2.2.2.1 <;> cases L[i].2.2.2.2.2.2.2.2.2.1 <;>
      simp (disch := (simp only [ByteArray.size_append, lit_size, List.length_cons, List.length_nil]; omega)) only [fits_small, cond_true, cond_false, if_true, Bool.false_eq_true, if_false] <;>
      refine congrArg (fun z => some (Sum.inl (L, z, ((i + 1 : Nat) : Int), ()))) (bs_inj ?_) <;>
      simp [bs_append, bs_lit]
  · have c1 : decide ((i : Int) > Int.ofNat 0) = true := decide_eq_true (by show (0 : Int) < i; omega)
    simp only [c1, cond_true, if_neg h0]
    cases L[i].2.2.2.2.2.2.2.2.1 <;> cases L[i].2.2.2.2.2.2.2.2.2.2.1 <;> cases L[i].2.2.2.2.2.2.2.2.2.1 <;>
      simp (disch := (simp only [ByteArray.size_append, lit_size, List.length_cons, List.length_nil]; omega)) only [fits_small, cond_true, cond_false, if_true, Bool.false_eq_true, if_false] <;>
      refine congrArg (fun z => some (Sum.inl (L, z, ((i + 1 : Nat) : Int), ()))) (bs_inj ?_) <;>
      simp [bs_append, bs_lit]
theorem jS_snoc : ∀ (l : List (List UInt8)) (w : List UInt8), l ≠ [] → jS (l ++ [w]) = jS l ++ [32, 124, 124, 32] ++ w
  | [], w, h => absurd rfl h
  | [v], w, _ => by simp [jS]
  | v :: u :: l, w, _ => by
    have := jS_snoc (u :: l) w (by simp)
    rw [List.cons_append] at this ⊢
    rw [List.cons_append, jS, this, jS]
    simp
theorem F35_is (L : List Span) (hl : L.length ≤ 100) (h : ∀ s ∈ L, okSN s) : F35 (L, ()) = some (lit (textB L), ()) := by
  rw [F35_eq]
  cases hL : L with
  | nil => rfl
  | cons s0 L0 =>
    rw [← hL]
    have c0 : (Int.ofNat L.length == Int.ofNat 0) = false := by rw [hL]; rfl
    have := loop_row (B := B35_0) (fun i => (L, lit (jS ((L.take i).map spT)), (i : Int), ())) L.length (e := (lit (jS (L.map spT)), ())) (fun i hi => by
      have hlen : (jS ((L.take i).map spT)).length ≤ 200 * i := by
        have key : ∀ ws : List (List UInt8), (∀ w ∈ ws, w.length ≤ 130) → (jS ws).length ≤ 134 * ws.length := by
          intro ws
          induction ws with
          | nil => intro _; simp [jS]
          | cons w ws ih =>
            intro hw
            have h1 := hw w (by simp)
            cases ws with
            | nil => simp [jS]; omega
            | cons v l =>
              have h2 := ih fun u hu => hw u (by simp [hu])
              simp only [jS, List.length_append, List.length_cons, List.length_nil] at h2 ⊢
              omega
        have := key ((L.take i).map spT) fun w hw => by
          obtain ⟨s, hs, rfl⟩ := List.mem_map.1 hw
          exact spT_len (h s (List.mem_of_mem_take hs))
        rw [List.length_map, List.length_take] at this
        omega
      rw [B35_0_is L i hi hl (h _ (List.getElem_mem hi)) _ hlen, List.take_succ_eq_append_getElem hi, List.map_append]
      refine congrArg (fun z => some (Sum.inl (L, lit z, ((i + 1 : Nat) : Int), ()))) ?_
      by_cases h0 : i = 0
      · subst h0; simp [jS]
      · rw [if_neg h0, List.map_singleton, jS_snoc _ _ (by
          intro he
          have := congrArg List.length he
          rw [List.length_map, List.length_take, List.length_nil] at this
          omega)]) (by
      rw [B35_0_eq]
      simp only [lt_out, cond_false, List.take_length])
    have h0 : loop B35_0 (L, lit [], Int.ofNat 0, ()) = some (lit (jS (L.map spT)), ()) := this
    rw [c0, cond_false, h0, obs]
    unfold textB
    rw [if_neg (by rw [hL]; simp)]
end Go.Vx.Z
