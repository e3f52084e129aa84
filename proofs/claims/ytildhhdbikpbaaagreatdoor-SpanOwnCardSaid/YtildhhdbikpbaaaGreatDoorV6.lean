import Derived.Test.YtildhhdbikpbaaaGreatDoorV5
set_option linter.unusedSimpArgs false
/-! Versions, spans that are made of numbers. -/
namespace Go.Vx
open Go
theorem within_eq (x : Int) (n : Nat) (hn : 0 < n) (hm : n ≤ 4611686018427387904) : ∃ k : Nat, k < n ∧ (bif decide (Int.tmod x (n : Int) < Int.ofNat 0) then some (IntKind.wrap IntKind.i64 (Int.tmod x (n : Int) + (n : Int)), ()) else some (Int.tmod x (n : Int), ())) = some ((k : Int), ()) := by
  have h1 : Int.tmod x n < n := Int.tmod_lt_of_pos x (by omega)
  have h2 : -(n : Int) < Int.tmod x n := by
    have := Int.lt_tmod_of_pos x (show (0 : Int) < n by omega)
    exact this
  cases hc : decide (Int.tmod x (n : Int) < Int.ofNat 0) with
  | true =>
    have hc' : Int.tmod x n < 0 := of_decide_eq_true hc
    refine ⟨(Int.tmod x n + n).toNat, by omega, ?_⟩
    rw [cond_true, wrap64 (by omega) (by omega)]
    congr 2
    omega
  | false =>
    have hc' : ¬ Int.tmod x n < 0 := of_decide_eq_false hc
    refine ⟨(Int.tmod x n).toNat, by omega, ?_⟩
    rw [cond_false]
    congr 2
    omega
theorem tmod_nat (k n : Nat) : Int.tmod (k : Int) (Int.ofNat n) = ((k % n : Nat) : Int) := rfl
theorem tdiv_nat (k n : Nat) (h : k < 9223372036854775807) : IntKind.wrap IntKind.i64 (Int.tdiv (k : Int) (Int.ofNat n)) = ((k / n : Nat) : Int) := by
  have : Int.tdiv (k : Int) (Int.ofNat n) = ((k / n : Nat) : Int) := rfl
  rw [this]
  have hle := Nat.div_le_self k n
  generalize k / n = q at *
  exact wrap64 (by omega) (by omega)
/-- Words, parted by dots. -/
def jn : List (List UInt8) → List UInt8
  | [] => []
  | [w] => w
  | w :: v :: l => w ++ 46 :: jn (v :: l)
theorem jn_snoc : ∀ (ws : List (List UInt8)) (w : List UInt8), ws ≠ [] → jn (ws ++ [w]) = jn ws ++ 46 :: w
  | [], w, h => absurd rfl h
  | [v], w, _ => rfl
  | v :: u :: l, w, _ => by
    have := jn_snoc (u :: l) w (by simp)
    rw [List.cons_append, List.cons_append, jn]
    rw [List.cons_append] at this
    rw [this, jn, List.append_assoc]
    rfl
namespace Z
set_option linter.unusedVariables false
set_option maxRecDepth 100000
theorem F54_is (x : Int) (n : Nat) (hn : 0 < n) (hm : n ≤ 4611686018427387904) : ∃ k : Nat, k < n ∧ F54 (x, Int.ofNat n, ()) = some ((k : Int), ()) := by
  rw [F54_eq]
  have : (!decide (Int.ofNat n = Int.ofNat 0)) = true := by simp; omega
  rw [this, cond_true]
  exact within_eq x n hn hm
theorem F29_is (x : Int) (n : Nat) (hn : 0 < n) (hm : n ≤ 4611686018427387904) : ∃ k : Nat, k < n ∧ F29 (x, Int.ofNat n, ()) = some ((k : Int), ()) := by
  rw [F29_eq]
  have : (!decide (Int.ofNat n = Int.ofNat 0)) = true := by simp; omega
  rw [this, cond_true]
  exact within_eq x n hn hm
def preL : List ByteArray := [(lit [48]), (lit [49]), (lit [49, 48]), (lit [50]), (lit [97]), (lit [114, 99]), (lit [114, 99, 49]), (lit [65]), (lit [45]), (lit [48, 97]), (lit [97, 108, 112, 104, 97]), (lit [57, 57, 57, 57, 57, 57, 57, 57, 57, 57]), (lit [50, 48, 50, 48, 48, 49, 48, 49, 48, 48, 48, 48, 48, 48, 45, 97, 98, 99, 100, 101, 102, 48, 49, 50, 51, 52, 53])]
def preW : List (List UInt8) := preL.map bs
/-- What is ahead of a version that is made. -/
def okPre (s : ByteArray) (n : Nat) : Prop := ∃ ws : List (List UInt8), ws.length = n ∧ (∀ w ∈ ws, w ∈ preW) ∧ bs s = jn ws
theorem preW_len : ∀ w ∈ preW, w.length ≤ 27 := by decide
theorem jn_len : ∀ (ws : List (List UInt8)), (∀ w ∈ ws, w.length ≤ 27) → (jn ws).length ≤ 28 * ws.length
  | [], _ => by simp [jn]
  | [w], h => by have := h w (by simp); simp [jn]; omega
  | w :: v :: l, h => by
    have h1 := jn_len (v :: l) fun u hu => h u (by simp [hu])
    have h2 := h w (by simp)
    simp only [jn, List.length_append, List.length_cons] at h1 ⊢
    omega
theorem fits_of {x y : ByteArray} (h : x.size + y.size ≤ 9223372036854775807) : fitsS x y = true := Nat.ble_eq_true_of_le h
theorem okPre_size {s : ByteArray} {n : Nat} (h : okPre s n) : s.size ≤ 28 * n := by
  obtain ⟨ws, h1, h2, h3⟩ := h
  rw [bs_size, h3, ← h1]
  exact jn_len ws fun w hw => preW_len w (h2 w hw)
theorem okPre_step {s y : ByteArray} {n : Nat} (h : okPre s n) (hy : y ∈ preL) : okPre (if n = 0 then s ++ y else s ++ lit [46] ++ y) (n + 1) := by
  obtain ⟨ws, h1, h2, h3⟩ := h
  refine ⟨ws ++ [bs y], by simp [h1], fun w hw => ?_, ?_⟩
  · rcases List.mem_append.1 hw with h | h
    · exact h2 w h
    · rw [List.mem_singleton.1 h]; exact List.mem_map.2 ⟨y, hy, rfl⟩
  · by_cases hn : n = 0
    · rw [if_pos hn]
      have : ws = [] := List.eq_nil_of_length_eq_zero (by omega)
      subst this
      rw [bs_append, h3]
      rfl
    · rw [if_neg hn, jn_snoc _ _ (fun h => hn (by rw [← h1, h]; rfl)), ← h3, bs_append, bs_append, bs_lit, List.append_assoc]
      rfl
theorem B32_is (x2 x3 x4 : Int) (x5 : ByteArray) (x6 x7 x8 : Int) : ∀ (d : Nat) (j i : Nat) (s : ByteArray), 4 - i = d → i ≤ 3 → j < 9223372036854775807 → okPre s i → ∃ s' n, n ≤ 3 ∧ okPre s' n ∧
    loop B32_0 ((j : Int), (i : Int), x2, x3, x4, x5, x6, x7, x8, s, preL, ()) = some (x2, x3, x4, x5, x6, x7, x8, s', ())
  | 0, j, i, s, hd, hi, _, _ => by omega
  | d + 1, j, i, s, hd, hi, hj, hs => by
    by_cases hc : i < j % 4
    · have h1 : decide ((i : Int) < Int.tmod (j : Int) (Int.ofNat 4)) = true := by rw [tmod_nat]; exact decide_eq_true (by omega)
      have h2 : IntKind.wrap IntKind.i64 (Int.tdiv (j : Int) (Int.ofNat 4)) = ((j / 4 : Nat) : Int) := tdiv_nat j 4 hj
      have h3 : IntKind.wrap IntKind.i64 (Int.tdiv (j : Int) (Int.ofNat 13)) = ((j / 13 : Nat) : Int) := tdiv_nat j 13 hj
      have h4 : Int.tmod ((j / 4 : Nat) : Int) (Int.ofNat 13) = ((j / 4 % 13 : Nat) : Int) := rfl
      have hlt : j / 4 % 13 < preL.length := Nat.mod_lt _ (by decide)
      have hy : preL[j / 4 % 13] ∈ preL := List.getElem_mem _
      have hw : IntKind.wrap IntKind.i64 ((i : Int) + Int.ofNat 1) = ((i + 1 : Nat) : Int) := wrap64s i (by omega)
      have hsz := okPre_size hs
      have hst := okPre_step hs hy
      have hyz : (preL[j / 4 % 13]).size ≤ 27 := by
        have : ∀ y ∈ preL, y.size ≤ 27 := by decide
        exact this _ hy
      generalize hye : preL[j / 4 % 13] = y at *
      have hat : preL[Int.toNat ((j / 4 % 13 : Nat) : Int)]? = some y := by rw [Int.toNat_natCast, List.getElem?_eq_getElem hlt, hye]
      have l46 : (lit [46]).size = 1 := rfl
      have hsa : (s ++ lit [46]).size = s.size + 1 := by rw [ByteArray.size_append]; rfl
      have hdiv : j / 13 ≤ j := Nat.div_le_self _ _
      obtain ⟨s', n, q1, q2, q3⟩ := B32_is x2 x3 x4 x5 x6 x7 x8 d (j / 13) (i + 1) _ (by omega) (by omega) (by omega) hst
      refine ⟨s', n, q1, q2, loop_step ?_ q3⟩
      rw [B32_0_eq]
      by_cases hi0 : i = 0
      · subst hi0
        have h5 : decide (((0 : Nat) : Int) > Int.ofNat 0) = false := rfl
        simp only [h1, h2, h3, h4, h5, cond_true, cond_false, ge_zero, hat, Option.bind_some, hw, if_true]
        rw [fits_of (by omega)]
        rfl
      · have h5 : decide ((i : Int) > Int.ofNat 0) = true := decide_eq_true (by show (0 : Int) < i; omega)
        simp only [h1, h2, h3, h4, h5, cond_true, ge_zero, hat, Option.bind_some, hw, if_neg hi0]
        rw [fits_of (by omega), fits_of (by omega)]
        rfl
    · refine ⟨s, i, hi, hs, loop_end ?_⟩
      have h1 : decide ((i : Int) < Int.tmod (j : Int) (Int.ofNat 4)) = false := by rw [tmod_nat]; exact decide_eq_false (by omega)
      rw [B32_0_eq, h1]
      rfl
/-- A version that is made of numbers. -/
def okMk (v : Ver) : Prop := (0 ≤ v.1 ∧ v.1 ≤ 999999) ∧ (0 ≤ v.2.1 ∧ v.2.1 ≤ 999999) ∧ (0 ≤ v.2.2.1 ∧ v.2.2.1 ≤ 999999) ∧ v.2.2.2.1.size ≤ 40 ∧ ∃ n, n ≤ 3 ∧ okPre v.2.2.2.1 n
theorem okMk_V {v : Ver} (h : okMk v) : okV v = true := decide_eq_true (by have := h.2.2.2.1; omega)
theorem F32_end (A B C : Int) (hA : 0 ≤ A ∧ A ≤ 999999) (hB : 0 ≤ B ∧ B ≤ 999999) (hC : 0 ≤ C ∧ C ≤ 999999) (m : Int) :
    ∃ v : Ver, (Option.bind (F54 (m, Int.ofNat 1099511627776, ())) fun r_1 => Option.bind (loop B32_0 (r_1.1, Int.ofNat 0, Int.ofNat 0, Int.ofNat 0, Int.ofNat 0, (lit []), A, B, C, (lit []), preL, ())) fun r => bif decide (Int.ofNat (ByteArray.size r.2.2.2.2.2.2.2.1) > Int.ofNat 40) then some (r.2.2.2.2.1, r.2.2.2.2.2.1, r.2.2.2.2.2.2.1, (lit [114, 99, 46, 49]), ()) else some (r.2.2.2.2.1, r.2.2.2.2.2.1, r.2.2.2.2.2.2.1, r.2.2.2.2.2.2.2.1, ())) = some (v.1, v.2.1, v.2.2.1, v.2.2.2.1, ()) ∧ okMk v := by
  obtain ⟨j, hj, h1⟩ := F54_is m 1099511627776 (by decide) (by decide)
  rw [h1, Option.bind_some]
  obtain ⟨s, n, hn, hs, h2⟩ := B32_is (Int.ofNat 0) (Int.ofNat 0) (Int.ofNat 0) (lit []) A B C 4 j 0 (lit []) rfl (by omega) (by omega) ⟨[], rfl, by simp, rfl⟩
  have h2' : loop B32_0 ((j : Int), Int.ofNat 0, Int.ofNat 0, Int.ofNat 0, Int.ofNat 0, lit [], A, B, C, lit [], preL, ()) = _ := h2
  simp only [h2', Option.bind_some]
  by_cases hc : s.size ≤ 40
  · have : decide (Int.ofNat s.size > Int.ofNat 40) = false := decide_eq_false (by show ¬ (40 : Int) < s.size; omega)
    rw [this, cond_false]
    exact ⟨(A, B, C, s, ()), rfl, hA, hB, hC, hc, n, hn, hs⟩
  · have : decide (Int.ofNat s.size > Int.ofNat 40) = true := decide_eq_true (by show (40 : Int) < s.size; omega)
    rw [this, cond_true]
    exact ⟨(A, B, C, lit [114, 99, 46, 49], ()), rfl, hA, hB, hC, by show 4 ≤ 40; decide, 2, by decide, [[114, 99], [49]], rfl, by decide, rfl⟩
theorem F32_is (n m : Int) : ∃ v : Ver, F32 (n, m, ()) = some (v.1, v.2.1, v.2.2.1, v.2.2.2.1, ()) ∧ okMk v := by
  obtain ⟨k, hk, h1⟩ := F54_is n 1099511627776 (by decide) (by decide)
  rw [F32_eq, h1, Option.bind_some]
  have d48 : IntKind.wrap IntKind.i64 (Int.tdiv (k : Int) (Int.ofNat 48)) = ((k / 48 : Nat) : Int) := tdiv_nat k 48 (by omega)
  have d432 : IntKind.wrap IntKind.i64 (Int.tdiv (k : Int) (Int.ofNat 432)) = ((k / 432 : Nat) : Int) := tdiv_nat k 432 (by omega)
  have d3 : IntKind.wrap IntKind.i64 (Int.tdiv (k : Int) (Int.ofNat 3)) = ((k / 3 : Nat) : Int) := tdiv_nat k 3 (by omega)
  have d12 : IntKind.wrap IntKind.i64 (Int.tdiv (k : Int) (Int.ofNat 12)) = ((k / 12 : Nat) : Int) := tdiv_nat k 12 (by omega)
  have hbig : IntKind.wrap IntKind.i64 (Int.ofNat 999999 - ((k / 432 % 2 : Nat) : Int)) = 999999 - ((k / 432 % 2 : Nat) : Int) := by
    show IntKind.wrap IntKind.i64 (999999 - ((k / 432 % 2 : Nat) : Int)) = _
    exact wrap64 (by omega) (by omega)
  simp only [d48, d432, d3, d12, tmod_nat, hbig]
  have a3 : 0 ≤ ((k % 3 : Nat) : Int) ∧ ((k % 3 : Nat) : Int) ≤ 999999 := by omega
  have b4 : 0 ≤ ((k / 3 % 4 : Nat) : Int) ∧ ((k / 3 % 4 : Nat) : Int) ≤ 999999 := by omega
  have c4 : 0 ≤ ((k / 12 % 4 : Nat) : Int) ∧ ((k / 12 % 4 : Nat) : Int) ≤ 999999 := by omega
  have g9 : 0 ≤ 999999 - ((k / 432 % 2 : Nat) : Int) ∧ 999999 - ((k / 432 % 2 : Nat) : Int) ≤ 999999 := by omega
  cases ((((k / 48 % 9 : Nat) : Int)) == Int.ofNat 0) with
  | true => exact F32_end _ _ _ g9 b4 c4 m
  | false =>
    cases ((((k / 48 % 9 : Nat) : Int)) == Int.ofNat 1) with
    | true => exact F32_end _ _ _ a3 g9 c4 m
    | false =>
      cases ((((k / 48 % 9 : Nat) : Int)) == Int.ofNat 2) with
      | true => exact F32_end _ _ _ a3 b4 g9 m
      | false => exact F32_end _ _ _ a3 b4 c4 m
end Z
end Go.Vx
/-! Raw spans, Make. -/
namespace Go.Vx.Z
open Go Go.Vx
set_option linter.unusedVariables false
set_option maxRecDepth 100000
theorem cmpW_least (w : List UInt8) : cmpW [48] w ≤ 0 := by
  unfold cmpW
  have h0 : wordKey [48] = (0, 1, [48]) := by decide
  rw [h0]
  unfold wordKey
  by_cases h : allDig w = true
  · rw [if_pos h]
    have h1 : cmpI 0 0 = 0 := rfl
    simp only [h1, orC, if_true]
    unfold allDig at h
    rw [Bool.and_eq_true] at h
    obtain ⟨h2, h3⟩ := h
    match w, h2, h3 with
    | [], _, h3 => cases h3
    | [c], h2, _ =>
      have h4 : cmpI 1 ((([c] : List UInt8).length : Nat) : Int) = 0 := rfl
      rw [if_pos h4]
      show orC (cmpU 48 c) 0 ≤ 0
      simp only [List.all_cons, List.all_nil, Bool.and_true] at h2
      unfold dig1 at h2
      rw [Bool.and_eq_true, decide_eq_true_eq] at h2
      unfold cmpU cmpI orC
      have h5 : (48 : UInt8).toNat = 48 := rfl
      rw [h5]
      split
      · omega
      · split
        · omega
        · split
          · omega
          · omega
    | c :: d :: l, _, _ =>
      have h4 : cmpI 1 (((c :: d :: l).length : Nat) : Int) = -1 := by
        unfold cmpI
        rw [if_pos (by simp only [List.length_cons]; omega)]
      rw [h4, if_neg (by omega)]
      omega
  · rw [if_neg h]
    show orC (cmpI 0 1) _ ≤ 0
    rw [show cmpI 0 1 = -1 from rfl]
    unfold orC
    rw [if_neg (by omega)]
    omega
theorem cmpP_least (l : List UInt8) : cmpP [48] l ≤ 0 := by
  unfold cmpP
  have h0 : preKey [48] = (0, [[48]]) := by decide
  rw [h0]
  unfold preKey
  by_cases h : l = []
  · rw [if_pos h]
    decide
  · rw [if_neg h]
    have h1 : cmpI 0 0 = 0 := rfl
    simp only [h1, orC, if_true]
    cases hs : splitB 46 l with
    | nil => exact absurd hs (splitB_ne 46 l)
    | cons w ws =>
      have h2 := cmpW_least w
      show orC (cmpW [48] w) (listC cmpW [] ws) ≤ 0
      unfold orC
      split
      · cases ws with
        | nil => exact Int.le_refl _
        | cons _ _ => show (-1 : Int) ≤ 0; omega
      · exact h2
theorem cmpI_zero_le {a : Int} (h : 0 ≤ a) : cmpI 0 a ≤ 0 := by
  unfold cmpI
  split
  · omega
  · split <;> omega
theorem orC_le {a b : Int} (ha : a ≤ 0) (hb : b ≤ 0) : orC a b ≤ 0 := by unfold orC; split <;> assumption
theorem least_le {v : Ver} (h : 0 ≤ v.1) (h1 : 0 ≤ v.2.1) (h2 : 0 ≤ v.2.2.1) : cmpV least v ≤ 0 := by
  have e : cmpV least v = orC (cmpI 0 v.1) (orC (cmpI 0 v.2.1) (orC (cmpI 0 v.2.2.1) (cmpP [48] (bs v.2.2.2.1)))) := rfl
  rw [e]
  exact orC_le (cmpI_zero_le h) (orC_le (cmpI_zero_le h1) (orC_le (cmpI_zero_le h2) (cmpP_least _)))
theorem pBeg_le {v : Ver} (b : Bool) (h : cmpV least v ≤ 0) : pBeg ≤ ptOf v b false := by
  have := le_pt least v false b
  have h2 : (decide (cmpV least v < 0) || cmpV least v == 0 && (!false || b)) = true := by
    by_cases h3 : cmpV least v < 0
    · simp [h3]
    · have : cmpV least v = 0 := by omega
      simp [this]
  rw [h2] at this
  exact of_decide_eq_true this
theorem mrg_ends (acc : List (Pt × Pt)) (p : Pt × Pt) (A B : Pt → Prop) (ha : ∀ q ∈ acc, A q.1 ∧ B q.2) (hp : A p.1 ∧ B p.2) : ∀ q ∈ Pc.mrg acc p, A q.1 ∧ B q.2 := by
  intro r hr
  unfold Pc.mrg at hr
  split at hr
  · rw [List.mem_singleton.1 hr]; exact hp
  · rename_i q hq
    have hqa := ha q (List.mem_of_getLast? hq)
    split at hr
    · split at hr
      · rcases List.mem_append.1 hr with h | h
        · exact ha r (List.dropLast_subset _ h)
        · rw [List.mem_singleton.1 h]; exact ⟨hqa.1, hp.2⟩
      · exact ha r hr
    · rcases List.mem_append.1 hr with h | h
      · exact ha r h
      · rw [List.mem_singleton.1 h]; exact hp
theorem mrgs_ends (A B : Pt → Prop) : ∀ (s acc : List (Pt × Pt)), (∀ q ∈ acc, A q.1 ∧ B q.2) → (∀ q ∈ s, A q.1 ∧ B q.2) → ∀ q ∈ s.foldl Pc.mrg acc, A q.1 ∧ B q.2
  | [], acc, ha, _ => ha
  | p :: s, acc, ha, hs => mrgs_ends A B s _ (mrg_ends acc p A B ha (hs p (by simp))) fun q hq => hs q (by simp [hq])
theorem nf_ends (A B : Pt → Prop) (l : List (Pt × Pt)) (h : ∀ q ∈ l, A q.1 ∧ B q.2) : ∀ q ∈ Pc.nf l, A q.1 ∧ B q.2 := by
  refine mrgs_ends A B _ [] (by simp) fun q hq => ?_
  have := (List.mergeSort_perm (l.filter Pc.full) fun p q => decide (p.1 ≤ q.1)).mem_iff.1 hq
  exact h q (List.mem_filter.1 this).1
theorem nf_vers (P : Ver → Prop) (h0 : P v0) (l : List Span) (h : ∀ s ∈ l, P s.lo ∧ P s.hi) : ∀ s ∈ (Pc.nf (l.map kOf)).map spanP, P s.lo ∧ P s.hi := by
  intro s hs
  obtain ⟨p, hp, rfl⟩ := List.mem_map.1 hs
  exact nf_ends (fun x => P x.v) (fun x => P x.v) (l.map kOf) (fun q hq => by
    obtain ⟨t, ht, rfl⟩ := List.mem_map.1 hq
    rw [kOf_1, kOf_2]
    refine ⟨(h t ht).1, ?_⟩
    split
    · exact h0
    · exact (h t ht).2) p hp
/-- Raw spans. -/
theorem B38_is (ns : List Int) : ∀ (d i : Nat) (l : List Span), 6 - i = d → i ≤ 6 → l.length = i → (∀ s ∈ l, okMk s.lo ∧ okMk s.hi) → ∃ l', loop B38_0 (ns, (i : Int), l, ()) = some (l', ()) ∧ l'.length ≤ 6 ∧ ∀ s ∈ l', okMk (Span.lo s) ∧ okMk (Span.hi s) := by
  have hend : ∀ (i : Nat) (l : List Span), (¬ (i < ns.length ∧ i < 6)) → B38_0 (ns, (i : Int), l, ()) = some (.inr (l, ())) := by
    intro i l h
    rw [B38_0_eq]
    by_cases h1 : i < ns.length
    · have h2 : decide ((i : Int) < Int.ofNat 6) = false := decide_eq_false (by show ¬ (i : Int) < 6; omega)
      rw [h2, lt_in h1]
      rfl
    · have h2 : decide ((i : Int) < Int.ofNat ns.length) = false := decide_eq_false (by show ¬ (i : Int) < (ns.length : Int); omega)
      rw [h2]
      rfl
  intro d
  induction d with
  | zero =>
    intro i l hd hi hl hs
    exact ⟨l, loop_end (hend i l (by omega)), by omega, hs⟩
  | succ d ih =>
    intro i l hd hi hl hs
    by_cases hc : i < ns.length ∧ i < 6
    · have h2 : decide ((i : Int) < Int.ofNat 6) = true := decide_eq_true (by show (i : Int) < 6; omega)
      obtain ⟨k, hk, h3⟩ := F29_is ns[i] 1125899906842624 (by decide) (by decide)
      have d7 : IntKind.wrap IntKind.i64 (Int.tdiv (k : Int) (Int.ofNat 7)) = ((k / 7 : Nat) : Int) := tdiv_nat k 7 (by omega)
      have d11 : IntKind.wrap IntKind.i64 (Int.tdiv (k : Int) (Int.ofNat 11)) = ((k / 11 : Nat) : Int) := tdiv_nat k 11 (by omega)
      have d13 : IntKind.wrap IntKind.i64 (Int.tdiv (k : Int) (Int.ofNat 13)) = ((k / 13 : Nat) : Int) := tdiv_nat k 13 (by omega)
      obtain ⟨u, h4, hu⟩ := F32_is (k : Int) ((k / 7 : Nat) : Int)
      obtain ⟨v, h5, hv⟩ := F32_is ((k / 11 : Nat) : Int) ((k / 13 : Nat) : Int)
      have hone := fun z : R7 => one_le (b := l) (N := 1599289640401) z (by omega)
      have hw := wrap_next (i := i) (n := 6) hc.2 (by omega)
      have hstep : ∃ z : Span, B38_0 (ns, (i : Int), l, ()) = some (.inl (ns, ((i + 1 : Nat) : Int), l ++ [z], ())) ∧ okMk z.lo ∧ okMk z.hi := by
        rw [B38_0_eq]
        simp only [lt_in hc.1, h2, cond_true, ge_zero, at_in hc.1, Option.bind_some, h3, d7, d11, d13, h4, h5, hone, hw]
        cases Int.tmod (IntKind.wrap IntKind.i64 (Int.tdiv (k : Int) (Int.ofNat 28))) (Int.ofNat 4) == Int.ofNat 0 with
        | true => exact ⟨_, rfl, hu, hu⟩
        | false => exact ⟨_, rfl, hu, hv⟩
      obtain ⟨z, h6, h7⟩ := hstep
      obtain ⟨l', q1, q2, q3⟩ := ih (i + 1) (l ++ [z]) (by omega) (by omega) (by simp [hl]) fun s hs' => by
        rcases List.mem_append.1 hs' with h | h
        · exact hs s h
        · rw [List.mem_singleton.1 h]; exact h7
      exact ⟨l', loop_step h6 q1, q2, q3⟩
    · exact ⟨l, loop_end (hend i l hc), by omega, hs⟩
theorem F38_is (ns : List Int) : ∃ l, F38 (ns, ()) = some (l, ()) ∧ l.length ≤ 6 ∧ ∀ s ∈ l, okMk (Span.lo s) ∧ okMk (Span.hi s) := by
  obtain ⟨l, h1, h2, h3⟩ := B38_is ns 6 0 [] rfl (by omega) rfl (by simp)
  have h1' : loop B38_0 (ns, Int.ofNat 0, [], ()) = some (l, ()) := h1
  exact ⟨l, by rw [F38_eq, h1']; rfl, h2, h3⟩
theorem okMk_v0 : okMk v0 := ⟨by decide, by decide, by decide, by decide, 0, by decide, [], rfl, by simp, rfl⟩
/-- What Make makes. -/
theorem make_is (ns : List Int) : ∃ L, F15 (ns, ()) = some (L, ()) ∧ Nrm L ∧ Rng L ∧ L.length ≤ 6 ∧ ∀ s ∈ L, okMk (Span.lo s) ∧ okMk (Span.hi s) := by
  obtain ⟨l, h1, h2, h3⟩ := F38_is ns
  have hok : ∀ s ∈ l, okS s = true := fun s hs => by
    simp only [okS, Bool.and_eq_true]
    exact ⟨okMk_V (h3 s hs).1, okMk_V (h3 s hs).2⟩
  obtain ⟨g1, g2, g3⟩ := kOf_says l hok
  have hF := F36_is l hok (by simp only [big]; omega)
  refine ⟨_, by rw [F15_eq, h1, Option.bind_some, hF]; rfl, g1, den_rng g1 fun x hx => ?_, by omega, nf_vers okMk okMk_v0 l h3⟩
  obtain ⟨p, hp, h4, h5⟩ := (g2 x).1 hx
  obtain ⟨s, hs, rfl⟩ := List.mem_map.1 hp
  have h6 := (h3 s hs).1
  have h7 := pBeg_le s.above (least_le h6.1.1 h6.2.1.1 h6.2.2.1.1)
  rw [← kOf_1] at h7
  grind
end Go.Vx.Z
namespace Go.Vx.Z
open Go Go.Vx Go.Proofs
set_option linter.unusedVariables false
set_option maxRecDepth 1000000
set_option maxHeartbeats 4000000
theorem B3_0_eq (x0 x1 x2 x3 x4 x5 : List R7) (x6 : List R5) (x7 : Int) : B3_0 (x0, x1, x2, x3, x4, x5, x6, x7, ()) =
  bif decide (x7 < Int.ofNat (List.length x6)) then bif decide (Int.ofNat 0 ≤ x7) then Option.bind x6[Int.toNat x7]? fun y => Option.bind (F24 (x0, y.1, y.2.1, y.2.2.1, y.2.2.2.1, ())) fun r => bif decide (Int.ofNat 0 ≤ x7) then Option.bind x6[Int.toNat x7]? fun y => Option.bind (F24 (x1, y.1, y.2.1, y.2.2.1, y.2.2.2.1, ())) fun r_1 => bif decide (Int.ofNat 0 ≤ x7) then Option.bind x6[Int.toNat x7]? fun y => Option.bind (F24 (x2, y.1, y.2.1, y.2.2.1, y.2.2.2.1, ())) fun r_2 => bif decide (Int.ofNat 0 ≤ x7) then Option.bind x6[Int.toNat x7]? fun y => Option.bind (F25 (x0, y.1, y.2.1, y.2.2.1, y.2.2.2.1, ())) fun r_3 => bif !r.1 == r_3.1 then some (Sum.inr (Sum.inl (false, ()))) else bif decide (Int.ofNat 0 ≤ x7) then Option.bind x6[Int.toNat x7]? fun y => Option.bind (F24 (x3, y.1, y.2.1, y.2.2.1, y.2.2.2.1, ())) fun r_4 => bif r.1 then bif !r_4.1 == r_1.1 then some (Sum.inr (Sum.inl (false, ()))) else bif decide (Int.ofNat 0 ≤ x7) then Option.bind x6[Int.toNat x7]? fun y => Option.bind (F24 (x4, y.1, y.2.1, y.2.2.1, y.2.2.2.1, ())) fun r_5 => bif r.1 then bif !r_5.1 == true then some (Sum.inr (Sum.inl (false, ()))) else bif decide (Int.ofNat 0 ≤ x7) then Option.bind x6[Int.toNat x7]? fun y => Option.bind (F24 (x5, y.1, y.2.1, y.2.2.1, y.2.2.2.1, ())) fun r_6 => bif r_6.1 == r.1 then bif decide (Int.ofNat 0 ≤ x7) then Option.bind x6[Int.toNat x7]? fun y => bif !(y.1 == Int.ofNat 0 && (y.2.1 == Int.ofNat 0 && (y.2.2.1 == Int.ofNat 0 && bl y.2.2.2.1 == []))) then bif decide (Int.ofNat 0 ≤ x7) then Option.bind x6[Int.toNat x7]? fun y => Option.bind (F27 ()) fun r => Option.bind (F26 (y.1, y.2.1, y.2.2.1, y.2.2.2.1, r.1, r.2.1, r.2.2.1, r.2.2.2.1, ())) fun r => bif decide (r.1 ≥ Int.ofNat 0) then some (Sum.inr (Sum.inl (false, ()))) else some (Sum.inl (x0, x1, x2, x3, x4, x5, x6, IntKind.wrap IntKind.i64 (x7 + Int.ofNat 1), ())) else none else some (Sum.inl (x0, x1, x2, x3, x4, x5, x6, IntKind.wrap IntKind.i64 (x7 + Int.ofNat 1), ())) else none else some (Sum.inl (x0, x1, x2, x3, x4, x5, x6, IntKind.wrap IntKind.i64 (x7 + Int.ofNat 1), ())) else none else bif r_1.1 then bif !r_5.1 == true then some (Sum.inr (Sum.inl (false, ()))) else bif decide (Int.ofNat 0 ≤ x7) then Option.bind x6[Int.toNat x7]? fun y => Option.bind (F24 (x5, y.1, y.2.1, y.2.2.1, y.2.2.2.1, ())) fun r_6 => bif r_6.1 == r.1 then bif decide (Int.ofNat 0 ≤ x7) then Option.bind x6[Int.toNat x7]? fun y => bif !(y.1 == Int.ofNat 0 && (y.2.1 == Int.ofNat 0 && (y.2.2.1 == Int.ofNat 0 && bl y.2.2.2.1 == []))) then bif decide (Int.ofNat 0 ≤ x7) then Option.bind x6[Int.toNat x7]? fun y => Option.bind (F27 ()) fun r => Option.bind (F26 (y.1, y.2.1, y.2.2.1, y.2.2.2.1, r.1, r.2.1, r.2.2.1, r.2.2.2.1, ())) fun r => bif decide (r.1 ≥ Int.ofNat 0) then some (Sum.inr (Sum.inl (false, ()))) else some (Sum.inl (x0, x1, x2, x3, x4, x5, x6, IntKind.wrap IntKind.i64 (x7 + Int.ofNat 1), ())) else none else some (Sum.inl (x0, x1, x2, x3, x4, x5, x6, IntKind.wrap IntKind.i64 (x7 + Int.ofNat 1), ())) else none else some (Sum.inl (x0, x1, x2, x3, x4, x5, x6, IntKind.wrap IntKind.i64 (x7 + Int.ofNat 1), ())) else none else bif !r_5.1 == r_2.1 then some (Sum.inr (Sum.inl (false, ()))) else bif decide (Int.ofNat 0 ≤ x7) then Option.bind x6[Int.toNat x7]? fun y => Option.bind (F24 (x5, y.1, y.2.1, y.2.2.1, y.2.2.2.1, ())) fun r_6 => bif r_6.1 == r.1 then bif decide (Int.ofNat 0 ≤ x7) then Option.bind x6[Int.toNat x7]? fun y => bif !(y.1 == Int.ofNat 0 && (y.2.1 == Int.ofNat 0 && (y.2.2.1 == Int.ofNat 0 && bl y.2.2.2.1 == []))) then bif decide (Int.ofNat 0 ≤ x7) then Option.bind x6[Int.toNat x7]? fun y => Option.bind (F27 ()) fun r => Option.bind (F26 (y.1, y.2.1, y.2.2.1, y.2.2.2.1, r.1, r.2.1, r.2.2.1, r.2.2.2.1, ())) fun r => bif decide (r.1 ≥ Int.ofNat 0) then some (Sum.inr (Sum.inl (false, ()))) else some (Sum.inl (x0, x1, x2, x3, x4, x5, x6, IntKind.wrap IntKind.i64 (x7 + Int.ofNat 1), ())) else none else some (Sum.inl (x0, x1, x2, x3, x4, x5, x6, IntKind.wrap IntKind.i64 (x7 + Int.ofNat 1), ())) else none else some (Sum.inl (x0, x1, x2, x3, x4, x5, x6, IntKind.wrap IntKind.i64 (x7 + Int.ofNat 1), ())) else none else none else bif !r_4.1 == false then some (Sum.inr (Sum.inl (false, ()))) else bif decide (Int.ofNat 0 ≤ x7) then Option.bind x6[Int.toNat x7]? fun y => Option.bind (F24 (x4, y.1, y.2.1, y.2.2.1, y.2.2.2.1, ())) fun r_5 => bif r.1 then bif !r_5.1 == true then some (Sum.inr (Sum.inl (false, ()))) else bif decide (Int.ofNat 0 ≤ x7) then Option.bind x6[Int.toNat x7]? fun y => Option.bind (F24 (x5, y.1, y.2.1, y.2.2.1, y.2.2.2.1, ())) fun r_6 => bif r_6.1 == r.1 then bif decide (Int.ofNat 0 ≤ x7) then Option.bind x6[Int.toNat x7]? fun y => bif !(y.1 == Int.ofNat 0 && (y.2.1 == Int.ofNat 0 && (y.2.2.1 == Int.ofNat 0 && bl y.2.2.2.1 == []))) then bif decide (Int.ofNat 0 ≤ x7) then Option.bind x6[Int.toNat x7]? fun y => Option.bind (F27 ()) fun r => Option.bind (F26 (y.1, y.2.1, y.2.2.1, y.2.2.2.1, r.1, r.2.1, r.2.2.1, r.2.2.2.1, ())) fun r => bif decide (r.1 ≥ Int.ofNat 0) then some (Sum.inr (Sum.inl (false, ()))) else some (Sum.inl (x0, x1, x2, x3, x4, x5, x6, IntKind.wrap IntKind.i64 (x7 + Int.ofNat 1), ())) else none else some (Sum.inl (x0, x1, x2, x3, x4, x5, x6, IntKind.wrap IntKind.i64 (x7 + Int.ofNat 1), ())) else none else some (Sum.inl (x0, x1, x2, x3, x4, x5, x6, IntKind.wrap IntKind.i64 (x7 + Int.ofNat 1), ())) else none else bif r_1.1 then bif !r_5.1 == true then some (Sum.inr (Sum.inl (false, ()))) else bif decide (Int.ofNat 0 ≤ x7) then Option.bind x6[Int.toNat x7]? fun y => Option.bind (F24 (x5, y.1, y.2.1, y.2.2.1, y.2.2.2.1, ())) fun r_6 => bif r_6.1 == r.1 then bif decide (Int.ofNat 0 ≤ x7) then Option.bind x6[Int.toNat x7]? fun y => bif !(y.1 == Int.ofNat 0 && (y.2.1 == Int.ofNat 0 && (y.2.2.1 == Int.ofNat 0 && bl y.2.2.2.1 == []))) then bif decide (Int.ofNat 0 ≤ x7) then Option.bind x6[Int.toNat x7]? fun y => Option.bind (F27 ()) fun r => Option.bind (F26 (y.1, y.2.1, y.2.2.1, y.2.2.2.1, r.1, r.2.1, r.2.2.1, r.2.2.2.1, ())) fun r => bif decide (r.1 ≥ Int.ofNat 0) then some (Sum.inr (Sum.inl (false, ()))) else some (Sum.inl (x0, x1, x2, x3, x4, x5, x6, IntKind.wrap IntKind.i64 (x7 + Int.ofNat 1), ())) else none else some (Sum.inl (x0, x1, x2, x3, x4, x5, x6, IntKind.wrap IntKind.i64 (x7 + Int.ofNat 1), ())) else none else some (Sum.inl (x0, x1, x2, x3, x4, x5, x6, IntKind.wrap IntKind.i64 (x7 + Int.ofNat 1), ())) else none else bif !r_5.1 == r_2.1 then some (Sum.inr (Sum.inl (false, ()))) else bif decide (Int.ofNat 0 ≤ x7) then Option.bind x6[Int.toNat x7]? fun y => Option.bind (F24 (x5, y.1, y.2.1, y.2.2.1, y.2.2.2.1, ())) fun r_6 => bif r_6.1 == r.1 then bif decide (Int.ofNat 0 ≤ x7) then Option.bind x6[Int.toNat x7]? fun y => bif !(y.1 == Int.ofNat 0 && (y.2.1 == Int.ofNat 0 && (y.2.2.1 == Int.ofNat 0 && bl y.2.2.2.1 == []))) then bif decide (Int.ofNat 0 ≤ x7) then Option.bind x6[Int.toNat x7]? fun y => Option.bind (F27 ()) fun r => Option.bind (F26 (y.1, y.2.1, y.2.2.1, y.2.2.2.1, r.1, r.2.1, r.2.2.1, r.2.2.2.1, ())) fun r => bif decide (r.1 ≥ Int.ofNat 0) then some (Sum.inr (Sum.inl (false, ()))) else some (Sum.inl (x0, x1, x2, x3, x4, x5, x6, IntKind.wrap IntKind.i64 (x7 + Int.ofNat 1), ())) else none else some (Sum.inl (x0, x1, x2, x3, x4, x5, x6, IntKind.wrap IntKind.i64 (x7 + Int.ofNat 1), ())) else none else some (Sum.inl (x0, x1, x2, x3, x4, x5, x6, IntKind.wrap IntKind.i64 (x7 + Int.ofNat 1), ())) else none else none else none else none else none else none else none else some (Sum.inr (Sum.inr ())) := by kernel_rfl
theorem F3_eq (x0 x1 x2 : List Int) (x3 x4 : Int) : F3 (x0, x1, x2, x3, x4, ()) =
  Option.bind (F15 (x0, ())) fun r => Option.bind (F15 (x1, ())) fun r_1 => Option.bind (F15 (x2, ())) fun r_2 => Option.bind (F16 (r.1, r_1.1, ())) fun r_3 => Option.bind (F17 ([r.1, r_1.1, r_2.1], ())) fun r_4 => Option.bind (F18 (r.1, ())) fun r_5 => Option.bind (F20 (r.1, r_1.1, ())) fun r_6 => Option.bind (F19 (r_3.1, r_6.1, ())) fun r_7 => bif !r_7.1 then some (false, ()) else Option.bind (F21 (r.1, r_1.1, ())) fun r_8 => Option.bind (F21 (r_8.1, r_2.1, ())) fun r_9 => Option.bind (F19 (r_4.1, r_9.1, ())) fun r_10 => bif !r_10.1 then some (false, ()) else Option.bind (F22 (r.1, ())) fun r_11 => Option.bind (F19 (r_5.1, r_11.1, ())) fun r_12 => bif !r_12.1 then some (false, ()) else bif decide (0 + List.length r.1 ≤ 1599289640401) then bif decide (List.length ([] ++ r.1) + List.length r_1.1 ≤ 1599289640401) then Option.bind (F23 ([] ++ r.1 ++ r_1.1, x3, x4, ())) fun r_13 => Option.bind (loop B3_0 (r.1, r_1.1, r_2.1, r_3.1, r_4.1, r_5.1, r_13.1, Int.ofNat 0, ())) fun r => Sum.elim (fun p => some (p.1, ())) (fun p => some (true, ())) r else none else none := by kernel_rfl
theorem F4_eq (x0 x1 x2 : List Int) : F4 (x0, x1, x2, ()) =
  Option.bind (F15 (x0, ())) fun r => Option.bind (F15 (x1, ())) fun r_1 => Option.bind (F15 (x2, ())) fun r_2 => Option.bind (F18 (r.1, ())) fun r_3 => Option.bind (F18 (r_3.1, ())) fun r_4 => Option.bind (F19 (r_4.1, r.1, ())) fun r_5 => bif r_5.1 then Option.bind (F17 ([r.1, r_1.1], ())) fun r_6 => Option.bind (F18 (r_6.1, ())) fun r_7 => Option.bind (F18 (r.1, ())) fun r_8 => Option.bind (F18 (r_1.1, ())) fun r_9 => Option.bind (F16 (r_8.1, r_9.1, ())) fun r_10 => Option.bind (F19 (r_7.1, r_10.1, ())) fun r_11 => bif r_11.1 then Option.bind (F17 ([r_1.1, r_2.1], ())) fun r_12 => Option.bind (F16 (r.1, r_12.1, ())) fun r_13 => Option.bind (F16 (r.1, r_1.1, ())) fun r_14 => Option.bind (F16 (r.1, r_2.1, ())) fun r_15 => Option.bind (F17 ([r_14.1, r_15.1], ())) fun r_16 => Option.bind (F19 (r_13.1, r_16.1, ())) fun r_17 => bif r_17.1 then Option.bind (F18 (r.1, ())) fun r_18 => Option.bind (F17 ([r.1, r_18.1], ())) fun r_19 => Option.bind (F18 ([], ())) fun r_20 => Option.bind (F19 (r_19.1, r_20.1, ())) fun r_21 => bif r_21.1 then Option.bind (F18 (r.1, ())) fun r_22 => Option.bind (F16 (r.1, r_22.1, ())) fun r_23 => bif Int.ofNat (List.length r_23.1) == Int.ofNat 0 then Option.bind (F17 ([r.1], ())) fun r_24 => Option.bind (F19 (r_24.1, r.1, ())) fun r_25 => bif r_25.1 then Option.bind (F17 ([], ())) fun r_26 => bif Int.ofNat (List.length r_26.1) == Int.ofNat 0 then Option.bind (F17 ([r_1.1, r.1], ())) fun r_27 => Option.bind (F17 ([r.1, r_1.1], ())) fun r => Option.bind (F19 (r_27.1, r.1, ())) fun r => some (r.1, ()) else some (false, ()) else some (false, ()) else some (false, ()) else some (false, ()) else some (false, ()) else some (false, ()) else some (false, ()) := by kernel_rfl
theorem B5_0_eq (x0 : Int) (x1 : List ByteArray) : B5_0 (x0, x1, ()) =
  bif decide (x0 < Int.ofNat (List.length x1)) then bif decide (Int.ofNat 0 ≤ x0) then Option.bind x1[Int.toNat x0]? fun y => Option.bind (F30 (y, ())) fun r => bif decide (Int.ofNat 0 ≤ x0) then Option.bind x1[Int.toNat x0]? fun y => Option.bind (F31 (y, ())) fun r_1 => Option.bind (F19 (r.1, r_1.1, ())) fun r_2 => bif !r_2.1 then some (Sum.inr (Sum.inl (false, ()))) else bif !r.2.1 == r_1.2.1 then some (Sum.inr (Sum.inl (false, ()))) else bif !r.2.2.1 == r_1.2.2.1 then some (Sum.inr (Sum.inl (false, ()))) else some (Sum.inl (IntKind.wrap IntKind.i64 (x0 + Int.ofNat 1), x1, ())) else none else none else some (Sum.inr (Sum.inr ())) := by kernel_rfl
theorem F6_eq (x0 x1 x2 x3 x4 : Int) : F6 (x0, x1, x2, x3, x4, ()) =
  Option.bind (F32 (x0, x1, ())) fun r => Option.bind (F32 (x2, x3, ())) fun r_1 => Option.bind (F26 (r_1.1, r_1.2.1, r_1.2.2.1, r_1.2.2.2.1, r.1, r.2.1, r.2.2.1, r.2.2.2.1, ())) fun r_2 => Option.bind (F29 (x4, Int.ofNat 7, ())) fun r_3 => bif decide (Int.ofNat 0 ≤ r_3.1) then Option.bind [(lit []), (lit [61]), (lit [33, 61]), (lit [62]), (lit [62, 61]), (lit [60]), (lit [60, 61])][Int.toNat r_3.1]? fun y => bif decide (Int.ofNat 0 ≤ r_3.1) then Option.bind [r_2.1 == Int.ofNat 0, r_2.1 == Int.ofNat 0, !r_2.1 == Int.ofNat 0, decide (r_2.1 > Int.ofNat 0), decide (r_2.1 ≥ Int.ofNat 0), decide (r_2.1 < Int.ofNat 0), decide (r_2.1 ≤ Int.ofNat 0)][Int.toNat r_3.1]? fun y_1 => Option.bind (F33 (r.1, r.2.1, r.2.2.1, r.2.2.2.1, ())) fun r_4 => bif fitsS y r_4.1 then Option.bind (F30 (y ++ r_4.1, ())) fun r_5 => Option.bind (F33 (r.1, r.2.1, r.2.2.1, r.2.2.2.1, ())) fun r_6 => bif fitsS r_6.1 (lit [32, 45, 32]) then Option.bind (F33 (r_1.1, r_1.2.1, r_1.2.2.1, r_1.2.2.2.1, ())) fun r_7 => bif fitsS (r_6.1 ++ (lit [32, 45, 32])) r_7.1 then Option.bind (F30 (r_6.1 ++ (lit [32, 45, 32]) ++ r_7.1, ())) fun r_8 => Option.bind (F33 (r.1, r.2.1, r.2.2.1, r.2.2.2.1, ())) fun r_9 => bif fitsS (lit [94]) r_9.1 then Option.bind (F30 ((lit [94]) ++ r_9.1, ())) fun r_10 => Option.bind (F33 (r.1, r.2.1, r.2.2.1, r.2.2.2.1, ())) fun r_11 => bif fitsS (lit [126]) r_11.1 then Option.bind (F30 ((lit [126]) ++ r_11.1, ())) fun r_12 => bif decide (r.1 > Int.ofNat 0) then Option.bind (F24 (r_10.1, r.1, r_1.2.1, r_1.2.2.1, r_1.2.2.2.1, ())) fun r_13 => Option.bind (F26 (r.1, r_1.2.1, r_1.2.2.1, r_1.2.2.2.1, r.1, r.2.1, r.2.2.1, r.2.2.2.1, ())) fun r_14 => Option.bind (F24 (r_12.1, r.1, r.2.1, r_1.2.2.1, r_1.2.2.2.1, ())) fun r_15 => Option.bind (F26 (r.1, r.2.1, r_1.2.2.1, r_1.2.2.2.1, r.1, r.2.1, r.2.2.1, r.2.2.2.1, ())) fun r_16 => bif r_5.2.2.1 == Int.ofNat 0 then bif r_8.2.2.1 == Int.ofNat 0 then bif r_10.2.2.1 == Int.ofNat 0 then bif r_12.2.2.1 == Int.ofNat 0 then Option.bind (F24 (r_5.1, r_1.1, r_1.2.1, r_1.2.2.1, r_1.2.2.2.1, ())) fun r_17 => bif r_17.1 == y_1 then Option.bind (F24 (r_8.1, r_1.1, r_1.2.1, r_1.2.2.1, r_1.2.2.2.1, ())) fun r_18 => bif r_18.1 == decide (r_2.1 ≥ Int.ofNat 0) then bif !!r_13.1 == decide (r_14.1 ≥ Int.ofNat 0) then bif !!r_15.1 == decide (r_16.1 ≥ Int.ofNat 0) then Option.bind (F24 (r_10.1, r.1, r.2.1, r.2.2.1, r.2.2.2.1, ())) fun r_19 => bif r_19.1 then Option.bind (F24 (r_12.1, r.1, r.2.1, r.2.2.1, r.2.2.2.1, ())) fun r => some (r.1, ()) else some (false, ()) else some (false, ()) else some (false, ()) else some (false, ()) else some (false, ()) else some (false, ()) else some (false, ()) else some (false, ()) else some (false, ()) else Option.bind (F24 (r_12.1, r.1, r.2.1, r_1.2.2.1, r_1.2.2.2.1, ())) fun r_13 => Option.bind (F26 (r.1, r.2.1, r_1.2.2.1, r_1.2.2.2.1, r.1, r.2.1, r.2.2.1, r.2.2.2.1, ())) fun r_14 => bif r_5.2.2.1 == Int.ofNat 0 then bif r_8.2.2.1 == Int.ofNat 0 then bif r_10.2.2.1 == Int.ofNat 0 then bif r_12.2.2.1 == Int.ofNat 0 then Option.bind (F24 (r_5.1, r_1.1, r_1.2.1, r_1.2.2.1, r_1.2.2.2.1, ())) fun r_15 => bif r_15.1 == y_1 then Option.bind (F24 (r_8.1, r_1.1, r_1.2.1, r_1.2.2.1, r_1.2.2.2.1, ())) fun r_16 => bif r_16.1 == decide (r_2.1 ≥ Int.ofNat 0) then bif !!r_13.1 == decide (r_14.1 ≥ Int.ofNat 0) then Option.bind (F24 (r_10.1, r.1, r.2.1, r.2.2.1, r.2.2.2.1, ())) fun r_17 => bif r_17.1 then Option.bind (F24 (r_12.1, r.1, r.2.1, r.2.2.1, r.2.2.2.1, ())) fun r => some (r.1, ()) else some (false, ()) else some (false, ()) else some (false, ()) else some (false, ()) else some (false, ()) else some (false, ()) else some (false, ()) else some (false, ()) else none else none else none else none else none else none else none := by kernel_rfl
theorem F7_eq (x0 x1 : List Int) : F7 (x0, x1, ()) =
  Option.bind (F15 (x0, ())) fun r => Option.bind (F15 (x1, ())) fun r_1 => Option.bind (F34 (r.1, ())) fun r_2 => Option.bind (F35 (r.1, ())) fun r_3 => bif bl r_2.1 == bl r_3.1 then Option.bind (F34 (r.1, ())) fun r_4 => Option.bind (F34 (r_1.1, ())) fun r_5 => Option.bind (F19 (r.1, r_1.1, ())) fun r => some ((bl r_4.1 == bl r_5.1) == r.1, ()) else some (false, ()) := by kernel_rfl
theorem B8_0_eq (x0 x1 : Int) (x2 : List (List R7)) : B8_0 (x0, x1, x2, ()) =
  bif decide (Int.ofNat 0 ≤ x0) then Option.bind x2[Int.toNat x0]? fun y => bif decide (x1 < Int.ofNat (List.length y)) then bif decide (Int.ofNat 0 ≤ x0) then Option.bind x2[Int.toNat x0]? fun y => bif decide (Int.ofNat 0 ≤ x1) then Option.bind y[Int.toNat x1]? fun y => bif y.2.2.2.2.2.2.2.2.2.2.1 then bif decide (Int.ofNat 0 ≤ x0) then Option.bind x2[Int.toNat x0]? fun y_1 => bif decide (IntKind.wrap IntKind.i64 (x1 + Int.ofNat 1) < Int.ofNat (List.length y_1)) then some (Sum.inr (Sum.inl (false, ()))) else bif y.2.2.2.2.2.2.2.2.2.1 then some (Sum.inr (Sum.inl (false, ()))) else bif !(y.2.2.2.2.1 == Int.ofNat 0 && (y.2.2.2.2.2.1 == Int.ofNat 0 && (y.2.2.2.2.2.2.1 == Int.ofNat 0 && bl y.2.2.2.2.2.2.2.1 == []))) then some (Sum.inr (Sum.inl (false, ()))) else some (Sum.inl (x0, IntKind.wrap IntKind.i64 (x1 + Int.ofNat 1), x2, ())) else none else some (Sum.inl (x0, IntKind.wrap IntKind.i64 (x1 + Int.ofNat 1), x2, ())) else none else none else some (Sum.inr (Sum.inr (x0, x2, ()))) else none := by kernel_rfl
theorem B8_1_eq (x0 : Int) (x1 : List (List R7)) : B8_1 (x0, x1, ()) =
  bif decide (x0 < Int.ofNat 3) then bif decide (Int.ofNat 0 ≤ x0) then Option.bind x1[Int.toNat x0]? fun y => bif decide (Int.ofNat 0 ≤ x0) then Option.bind x1[Int.toNat x0]? fun y_1 => Option.bind (F36 (y_1, ())) fun r => Option.bind (F19 (y, r.1, ())) fun r => bif !r.1 then some (Sum.inr (Sum.inl (false, ()))) else Option.bind (loop B8_0 (x0, Int.ofNat 0, x1, ())) fun r => Sum.elim (fun p => some (Sum.inr (Sum.inl (p.1, ())))) (fun p => some (Sum.inl (IntKind.wrap IntKind.i64 (p.1 + Int.ofNat 1), p.2.1, ()))) r else none else none else some (Sum.inr (Sum.inr ())) := by kernel_rfl
theorem F8_eq (x0 x1 : List Int) : F8 (x0, x1, ()) =
  Option.bind (F15 (x0, ())) fun r => Option.bind (F15 (x1, ())) fun r_1 => Option.bind (F16 (r.1, r_1.1, ())) fun r_2 => Option.bind (F17 ([r.1, r_1.1], ())) fun r_3 => Option.bind (F18 (r.1, ())) fun r => Option.bind (loop B8_1 (Int.ofNat 0, [r_2.1, r_3.1, r.1], ())) fun r => Sum.elim (fun p => some (p.1, ())) (fun p => some (true, ())) r := by kernel_rfl
theorem B9_0_eq (x0 x1 : Bool) (x2 x3 : Int) (x4 : List R5) : B9_0 (x0, x1, x2, x3, x4, ()) =
  bif decide (x3 < Int.ofNat 2) then bif decide (Int.ofNat 0 ≤ x3) && decide (x3 < Int.ofNat (List.length x4)) then Option.bind x4[Int.toNat x3]? fun y => bif decide (Int.ofNat 0 ≤ IntKind.wrap IntKind.i64 (x3 + Int.ofNat 1)) && decide (IntKind.wrap IntKind.i64 (x3 + Int.ofNat 1) < Int.ofNat (List.length x4)) then Option.bind x4[Int.toNat (IntKind.wrap IntKind.i64 (x3 + Int.ofNat 1))]? fun y_1 => Option.bind (F26 (y.1, y.2.1, y.2.2.1, y.2.2.2.1, y_1.1, y_1.2.1, y_1.2.2.1, y_1.2.2.2.1, ())) fun r => bif decide (r.1 > Int.ofNat 0) then bif decide (Int.ofNat 0 ≤ IntKind.wrap IntKind.i64 (x3 + Int.ofNat 1)) && decide (IntKind.wrap IntKind.i64 (x3 + Int.ofNat 1) < Int.ofNat (List.length x4)) then Option.bind x4[Int.toNat (IntKind.wrap IntKind.i64 (x3 + Int.ofNat 1))]? fun y => bif decide (Int.ofNat 0 ≤ x3) && decide (x3 < Int.ofNat (List.length x4)) then Option.bind x4[Int.toNat x3]? fun y_2 => bif decide (Int.ofNat 0 ≤ x3) && decide (x3 < Int.ofNat (List.length x4)) then Option.bind x4[Int.toNat x3]? fun y_3 => bif decide (Int.ofNat 0 ≤ IntKind.wrap IntKind.i64 (x3 + Int.ofNat 1)) && decide (IntKind.wrap IntKind.i64 (x3 + Int.ofNat 1) < Int.ofNat (List.length (List.set x4 (Int.toNat x3) (y.1, y.2.1, y.2.2.1, y.2.2.2.1, ())))) then Option.bind (List.set x4 (Int.toNat x3) (y.1, y.2.1, y.2.2.1, y.2.2.2.1, ()))[Int.toNat (IntKind.wrap IntKind.i64 (x3 + Int.ofNat 1))]? fun y_4 => some (Sum.inl (x0, x1, x2, IntKind.wrap IntKind.i64 (x3 + Int.ofNat 1), List.set (List.set x4 (Int.toNat x3) (y.1, y.2.1, y.2.2.1, y.2.2.2.1, ())) (Int.toNat (IntKind.wrap IntKind.i64 (x3 + Int.ofNat 1))) (y_2.1, y_2.2.1, y_2.2.2.1, y_2.2.2.2.1, ()), ())) else none else none else none else none else some (Sum.inl (x0, x1, x2, IntKind.wrap IntKind.i64 (x3 + Int.ofNat 1), x4, ())) else none else none else some (Sum.inr (x0, x1, x2, x4, ())) := by kernel_rfl
theorem B9_1_eq (x0 x1 : Bool) (x2 : Int) (x3 : List R5) : B9_1 (x0, x1, x2, x3, ()) =
  bif decide (x2 < Int.ofNat 3) then Option.bind (loop B9_0 (x0, x1, x2, Int.ofNat 0, x3, ())) fun r => some (Sum.inl (r.1, r.2.1, IntKind.wrap IntKind.i64 (r.2.2.1 + Int.ofNat 1), r.2.2.2.1, ())) else some (Sum.inr (x0, x1, x3, ())) := by kernel_rfl
theorem F9_eq (x0 x1 x2 x3 x4 x5 : Int) (x6 x7 : Bool) : F9 (x0, x1, x2, x3, x4, x5, x6, x7, ()) =
  Option.bind (F32 (x0, x1, ())) fun r => Option.bind (F32 (x2, x3, ())) fun r_1 => Option.bind (F32 (x4, x5, ())) fun r_2 => Option.bind (loop B9_1 (x6, x7, Int.ofNat 0, [(r.1, r.2.1, r.2.2.1, r.2.2.2.1, ()), (r_1.1, r_1.2.1, r_1.2.2.1, r_1.2.2.2.1, ()), (r_2.1, r_2.2.1, r_2.2.2.1, r_2.2.2.2.1, ())], ())) fun r => bif decide (Int.ofNat 0 < Int.ofNat (List.length r.2.2.1)) then Option.bind r.2.2.1[0]? fun y => bif decide (Int.ofNat 1 < Int.ofNat (List.length r.2.2.1)) then Option.bind r.2.2.1[1]? fun y_1 => bif y.1 == y_1.1 && (y.2.1 == y_1.2.1 && (y.2.2.1 == y_1.2.2.1 && bl y.2.2.2.1 == bl y_1.2.2.2.1)) then some (true, ()) else bif decide (Int.ofNat 1 < Int.ofNat (List.length r.2.2.1)) then Option.bind r.2.2.1[1]? fun y => bif decide (Int.ofNat 2 < Int.ofNat (List.length r.2.2.1)) then Option.bind r.2.2.1[2]? fun y_2 => bif y.1 == y_2.1 && (y.2.1 == y_2.2.1 && (y.2.2.1 == y_2.2.2.1 && bl y.2.2.2.1 == bl y_2.2.2.2.1)) then some (true, ()) else bif decide (Int.ofNat 0 < Int.ofNat (List.length r.2.2.1)) then Option.bind r.2.2.1[0]? fun y => bif decide (Int.ofNat 1 < Int.ofNat (List.length r.2.2.1)) then Option.bind r.2.2.1[1]? fun y_3 => bif decide (Int.ofNat 1 < Int.ofNat (List.length r.2.2.1)) then Option.bind r.2.2.1[1]? fun y_4 => bif decide (Int.ofNat 2 < Int.ofNat (List.length r.2.2.1)) then Option.bind r.2.2.1[2]? fun y_5 => Option.bind (F17 ([[(y.1, y.2.1, y.2.2.1, y.2.2.2.1, y_3.1, y_3.2.1, y_3.2.2.1, y_3.2.2.2.1, false, r.1, false, ())], [(y_4.1, y_4.2.1, y_4.2.2.1, y_4.2.2.2.1, y_5.1, y_5.2.1, y_5.2.2.1, y_5.2.2.2.1, r.2.1, false, false, ())]], ())) fun r_3 => bif r.1 then bif Int.ofNat (List.length r_3.1) == Int.ofNat 1 then Option.bind r_3.1[0]? fun y_6 => bif decide (Int.ofNat 0 < Int.ofNat (List.length r.2.2.1)) then Option.bind r.2.2.1[0]? fun y_7 => bif decide (Int.ofNat 2 < Int.ofNat (List.length r.2.2.1)) then Option.bind r.2.2.1[2]? fun y_8 => bif y_6.1 == y_7.1 && (y_6.2.1 == y_7.2.1 && (y_6.2.2.1 == y_7.2.2.1 && bl y_6.2.2.2.1 == bl y_7.2.2.2.1)) && (y_6.2.2.2.2.1 == y_8.1 && (y_6.2.2.2.2.2.1 == y_8.2.1 && (y_6.2.2.2.2.2.2.1 == y_8.2.2.1 && bl y_6.2.2.2.2.2.2.2.1 == bl y_8.2.2.2.1)) && (y_6.2.2.2.2.2.2.2.2.1 == false && (y_6.2.2.2.2.2.2.2.2.2.1 == false && y_6.2.2.2.2.2.2.2.2.2.2.1 == false))) then Option.bind (F16 ([(y.1, y.2.1, y.2.2.1, y.2.2.2.1, y_3.1, y_3.2.1, y_3.2.2.1, y_3.2.2.2.1, false, r.1, false, ())], [(y_4.1, y_4.2.1, y_4.2.2.1, y_4.2.2.2.1, y_5.1, y_5.2.1, y_5.2.2.1, y_5.2.2.2.1, r.2.1, false, false, ())], ())) fun r_4 => bif r.1 then some ((Int.ofNat (List.length r_4.1) == Int.ofNat 1) == !r.2.1, ()) else some ((Int.ofNat (List.length r_4.1) == Int.ofNat 1) == false, ()) else some (false, ()) else none else none else some (false, ()) else bif !r.2.1 then bif Int.ofNat (List.length r_3.1) == Int.ofNat 1 then Option.bind r_3.1[0]? fun y_6 => bif decide (Int.ofNat 0 < Int.ofNat (List.length r.2.2.1)) then Option.bind r.2.2.1[0]? fun y_7 => bif decide (Int.ofNat 2 < Int.ofNat (List.length r.2.2.1)) then Option.bind r.2.2.1[2]? fun y_8 => bif y_6.1 == y_7.1 && (y_6.2.1 == y_7.2.1 && (y_6.2.2.1 == y_7.2.2.1 && bl y_6.2.2.2.1 == bl y_7.2.2.2.1)) && (y_6.2.2.2.2.1 == y_8.1 && (y_6.2.2.2.2.2.1 == y_8.2.1 && (y_6.2.2.2.2.2.2.1 == y_8.2.2.1 && bl y_6.2.2.2.2.2.2.2.1 == bl y_8.2.2.2.1)) && (y_6.2.2.2.2.2.2.2.2.1 == false && (y_6.2.2.2.2.2.2.2.2.2.1 == false && y_6.2.2.2.2.2.2.2.2.2.2.1 == false))) then Option.bind (F16 ([(y.1, y.2.1, y.2.2.1, y.2.2.2.1, y_3.1, y_3.2.1, y_3.2.2.1, y_3.2.2.2.1, false, r.1, false, ())], [(y_4.1, y_4.2.1, y_4.2.2.1, y_4.2.2.2.1, y_5.1, y_5.2.1, y_5.2.2.1, y_5.2.2.2.1, r.2.1, false, false, ())], ())) fun r_4 => bif r.1 then some ((Int.ofNat (List.length r_4.1) == Int.ofNat 1) == !r.2.1, ()) else some ((Int.ofNat (List.length r_4.1) == Int.ofNat 1) == false, ()) else some (false, ()) else none else none else some (false, ()) else bif Int.ofNat (List.length r_3.1) == Int.ofNat 2 then Option.bind (F16 ([(y.1, y.2.1, y.2.2.1, y.2.2.2.1, y_3.1, y_3.2.1, y_3.2.2.1, y_3.2.2.2.1, false, r.1, false, ())], [(y_4.1, y_4.2.1, y_4.2.2.1, y_4.2.2.2.1, y_5.1, y_5.2.1, y_5.2.2.1, y_5.2.2.2.1, r.2.1, false, false, ())], ())) fun r_4 => bif Int.ofNat (List.length r_4.1) == Int.ofNat 0 then bif decide (Int.ofNat 1 < Int.ofNat (List.length r.2.2.1)) then Option.bind r.2.2.1[1]? fun y => Option.bind (F24 (r_3.1, y.1, y.2.1, y.2.2.1, y.2.2.2.1, ())) fun r => some (!r.1, ()) else none else some (false, ()) else some (false, ()) else none else none else none else none else none else none else none else none := by kernel_rfl
theorem F12_eq (x0 x1 : List Int) (x2 : Int) : F12 (x0, x1, x2, ()) =
  Option.bind (F28 (x0, ())) fun r => Option.bind (F28 (x1, ())) fun r_1 => Option.bind (F29 (x2, Int.ofNat 6, ())) fun r_2 => bif decide (Int.ofNat 0 ≤ r_2.1) && decide (r_2.1 ≤ Int.ofNat 6) then bif fitsS r.1 (lit [124, 124]) then bif fitsS (r.1 ++ (lit [124, 124])) r_1.1 then Option.bind (F30 (r.1 ++ (lit [124, 124]) ++ r_1.1, ())) fun r_3 => bif fitsS (ByteArray.extract (lit [32, 32, 32, 32, 32, 32]) 0 (Int.toNat r_2.1)) r_1.1 then bif fitsS (ByteArray.extract (lit [32, 32, 32, 32, 32, 32]) 0 (Int.toNat r_2.1) ++ r_1.1) (ByteArray.extract (lit [32, 32, 32, 32, 32, 32]) 0 (Int.toNat r_2.1)) then bif fitsS (ByteArray.extract (lit [32, 32, 32, 32, 32, 32]) 0 (Int.toNat r_2.1) ++ r_1.1 ++ ByteArray.extract (lit [32, 32, 32, 32, 32, 32]) 0 (Int.toNat r_2.1)) (lit [124, 124]) then bif fitsS (ByteArray.extract (lit [32, 32, 32, 32, 32, 32]) 0 (Int.toNat r_2.1) ++ r_1.1 ++ ByteArray.extract (lit [32, 32, 32, 32, 32, 32]) 0 (Int.toNat r_2.1) ++ (lit [124, 124])) (ByteArray.extract (lit [32, 32, 32, 32, 32, 32]) 0 (Int.toNat r_2.1)) then bif fitsS (ByteArray.extract (lit [32, 32, 32, 32, 32, 32]) 0 (Int.toNat r_2.1) ++ r_1.1 ++ ByteArray.extract (lit [32, 32, 32, 32, 32, 32]) 0 (Int.toNat r_2.1) ++ (lit [124, 124]) ++ ByteArray.extract (lit [32, 32, 32, 32, 32, 32]) 0 (Int.toNat r_2.1)) r.1 then bif fitsS (ByteArray.extract (lit [32, 32, 32, 32, 32, 32]) 0 (Int.toNat r_2.1) ++ r_1.1 ++ ByteArray.extract (lit [32, 32, 32, 32, 32, 32]) 0 (Int.toNat r_2.1) ++ (lit [124, 124]) ++ ByteArray.extract (lit [32, 32, 32, 32, 32, 32]) 0 (Int.toNat r_2.1) ++ r.1) (ByteArray.extract (lit [32, 32, 32, 32, 32, 32]) 0 (Int.toNat r_2.1)) then Option.bind (F30 (ByteArray.extract (lit [32, 32, 32, 32, 32, 32]) 0 (Int.toNat r_2.1) ++ r_1.1 ++ ByteArray.extract (lit [32, 32, 32, 32, 32, 32]) 0 (Int.toNat r_2.1) ++ (lit [124, 124]) ++ ByteArray.extract (lit [32, 32, 32, 32, 32, 32]) 0 (Int.toNat r_2.1) ++ r.1 ++ ByteArray.extract (lit [32, 32, 32, 32, 32, 32]) 0 (Int.toNat r_2.1), ())) fun r_4 => Option.bind (F30 (r.1, ())) fun r => Option.bind (F30 (r_1.1, ())) fun r_5 => bif r_3.2.2.1 == Int.ofNat 0 then bif r_4.2.2.1 == Int.ofNat 0 then bif r.2.2.1 == Int.ofNat 0 then bif r_5.2.2.1 == Int.ofNat 0 then Option.bind (F19 (r_3.1, r_4.1, ())) fun r_6 => bif r_6.1 then Option.bind (F17 ([r.1, r_5.1], ())) fun r => Option.bind (F19 (r_3.1, r.1, ())) fun r => some (r.1, ()) else some (false, ()) else some (false, ()) else some (false, ()) else some (false, ()) else some (false, ()) else none else none else none else none else none else none else none else none else none := by kernel_rfl
theorem B13_0_eq (x0 x1 : List Int) (x2 x3 : List R7) (x4 x5 : Int) (x6 x7 x8 x9 x10 x11 x12 x13 : Nat) (x14 x15 x16 x17 : List R7) : B13_0 (x0, x1, x2, x3, x4, x5, x6, x7, x8, x9, x10, x11, x12, x13, x14, x15, x16, x17, ()) =
  bif x4 == Int.ofNat 0 then bif decide (x5 < Int.ofNat (x7 - x6)) then bif x4 == Int.ofNat 0 then bif decide (Int.ofNat 0 ≤ x5) && decide (x5 < Int.ofNat (x7 - x6)) then Option.bind x14[x6 + Int.toNat x5]? fun y => some (Sum.inl (x0, x1, x2, x3, x4, IntKind.wrap IntKind.i64 (x5 + Int.ofNat 1), x6, x7, x8, x9, x10, x11, x12, x13, List.set x14 (x6 + Int.toNat x5) (Int.ofNat 0, Int.ofNat 0, Int.ofNat 0, (lit []), Int.ofNat 0, Int.ofNat 0, Int.ofNat 0, (lit []), false, false, true, ()), x15, x16, x17, ())) else none else bif x4 == Int.ofNat 1 then bif decide (Int.ofNat 0 ≤ x5) && decide (x5 < Int.ofNat (x9 - x8)) then Option.bind x15[x8 + Int.toNat x5]? fun y => some (Sum.inl (x0, x1, x2, x3, x4, IntKind.wrap IntKind.i64 (x5 + Int.ofNat 1), x6, x7, x8, x9, x10, x11, x12, x13, x14, List.set x15 (x8 + Int.toNat x5) (Int.ofNat 0, Int.ofNat 0, Int.ofNat 0, (lit []), Int.ofNat 0, Int.ofNat 0, Int.ofNat 0, (lit []), false, false, true, ()), x16, x17, ())) else none else bif x4 == Int.ofNat 2 then bif decide (Int.ofNat 0 ≤ x5) && decide (x5 < Int.ofNat (x11 - x10)) then Option.bind x16[x10 + Int.toNat x5]? fun y => some (Sum.inl (x0, x1, x2, x3, x4, IntKind.wrap IntKind.i64 (x5 + Int.ofNat 1), x6, x7, x8, x9, x10, x11, x12, x13, x14, x15, List.set x16 (x10 + Int.toNat x5) (Int.ofNat 0, Int.ofNat 0, Int.ofNat 0, (lit []), Int.ofNat 0, Int.ofNat 0, Int.ofNat 0, (lit []), false, false, true, ()), x17, ())) else none else bif x4 == Int.ofNat 3 then bif decide (Int.ofNat 0 ≤ x5) && decide (x5 < Int.ofNat (x13 - x12)) then Option.bind x17[x12 + Int.toNat x5]? fun y => some (Sum.inl (x0, x1, x2, x3, x4, IntKind.wrap IntKind.i64 (x5 + Int.ofNat 1), x6, x7, x8, x9, x10, x11, x12, x13, x14, x15, x16, List.set x17 (x12 + Int.toNat x5) (Int.ofNat 0, Int.ofNat 0, Int.ofNat 0, (lit []), Int.ofNat 0, Int.ofNat 0, Int.ofNat 0, (lit []), false, false, true, ()), ())) else none else none else some (Sum.inr (x0, x1, x2, x3, x4, x6, x7, x8, x9, x10, x11, x12, x13, x14, x15, x16, x17, ())) else bif x4 == Int.ofNat 1 then bif decide (x5 < Int.ofNat (x9 - x8)) then bif x4 == Int.ofNat 0 then bif decide (Int.ofNat 0 ≤ x5) && decide (x5 < Int.ofNat (x7 - x6)) then Option.bind x14[x6 + Int.toNat x5]? fun y => some (Sum.inl (x0, x1, x2, x3, x4, IntKind.wrap IntKind.i64 (x5 + Int.ofNat 1), x6, x7, x8, x9, x10, x11, x12, x13, List.set x14 (x6 + Int.toNat x5) (Int.ofNat 0, Int.ofNat 0, Int.ofNat 0, (lit []), Int.ofNat 0, Int.ofNat 0, Int.ofNat 0, (lit []), false, false, true, ()), x15, x16, x17, ())) else none else bif x4 == Int.ofNat 1 then bif decide (Int.ofNat 0 ≤ x5) && decide (x5 < Int.ofNat (x9 - x8)) then Option.bind x15[x8 + Int.toNat x5]? fun y => some (Sum.inl (x0, x1, x2, x3, x4, IntKind.wrap IntKind.i64 (x5 + Int.ofNat 1), x6, x7, x8, x9, x10, x11, x12, x13, x14, List.set x15 (x8 + Int.toNat x5) (Int.ofNat 0, Int.ofNat 0, Int.ofNat 0, (lit []), Int.ofNat 0, Int.ofNat 0, Int.ofNat 0, (lit []), false, false, true, ()), x16, x17, ())) else none else bif x4 == Int.ofNat 2 then bif decide (Int.ofNat 0 ≤ x5) && decide (x5 < Int.ofNat (x11 - x10)) then Option.bind x16[x10 + Int.toNat x5]? fun y => some (Sum.inl (x0, x1, x2, x3, x4, IntKind.wrap IntKind.i64 (x5 + Int.ofNat 1), x6, x7, x8, x9, x10, x11, x12, x13, x14, x15, List.set x16 (x10 + Int.toNat x5) (Int.ofNat 0, Int.ofNat 0, Int.ofNat 0, (lit []), Int.ofNat 0, Int.ofNat 0, Int.ofNat 0, (lit []), false, false, true, ()), x17, ())) else none else bif x4 == Int.ofNat 3 then bif decide (Int.ofNat 0 ≤ x5) && decide (x5 < Int.ofNat (x13 - x12)) then Option.bind x17[x12 + Int.toNat x5]? fun y => some (Sum.inl (x0, x1, x2, x3, x4, IntKind.wrap IntKind.i64 (x5 + Int.ofNat 1), x6, x7, x8, x9, x10, x11, x12, x13, x14, x15, x16, List.set x17 (x12 + Int.toNat x5) (Int.ofNat 0, Int.ofNat 0, Int.ofNat 0, (lit []), Int.ofNat 0, Int.ofNat 0, Int.ofNat 0, (lit []), false, false, true, ()), ())) else none else none else some (Sum.inr (x0, x1, x2, x3, x4, x6, x7, x8, x9, x10, x11, x12, x13, x14, x15, x16, x17, ())) else bif x4 == Int.ofNat 2 then bif decide (x5 < Int.ofNat (x11 - x10)) then bif x4 == Int.ofNat 0 then bif decide (Int.ofNat 0 ≤ x5) && decide (x5 < Int.ofNat (x7 - x6)) then Option.bind x14[x6 + Int.toNat x5]? fun y => some (Sum.inl (x0, x1, x2, x3, x4, IntKind.wrap IntKind.i64 (x5 + Int.ofNat 1), x6, x7, x8, x9, x10, x11, x12, x13, List.set x14 (x6 + Int.toNat x5) (Int.ofNat 0, Int.ofNat 0, Int.ofNat 0, (lit []), Int.ofNat 0, Int.ofNat 0, Int.ofNat 0, (lit []), false, false, true, ()), x15, x16, x17, ())) else none else bif x4 == Int.ofNat 1 then bif decide (Int.ofNat 0 ≤ x5) && decide (x5 < Int.ofNat (x9 - x8)) then Option.bind x15[x8 + Int.toNat x5]? fun y => some (Sum.inl (x0, x1, x2, x3, x4, IntKind.wrap IntKind.i64 (x5 + Int.ofNat 1), x6, x7, x8, x9, x10, x11, x12, x13, x14, List.set x15 (x8 + Int.toNat x5) (Int.ofNat 0, Int.ofNat 0, Int.ofNat 0, (lit []), Int.ofNat 0, Int.ofNat 0, Int.ofNat 0, (lit []), false, false, true, ()), x16, x17, ())) else none else bif x4 == Int.ofNat 2 then bif decide (Int.ofNat 0 ≤ x5) && decide (x5 < Int.ofNat (x11 - x10)) then Option.bind x16[x10 + Int.toNat x5]? fun y => some (Sum.inl (x0, x1, x2, x3, x4, IntKind.wrap IntKind.i64 (x5 + Int.ofNat 1), x6, x7, x8, x9, x10, x11, x12, x13, x14, x15, List.set x16 (x10 + Int.toNat x5) (Int.ofNat 0, Int.ofNat 0, Int.ofNat 0, (lit []), Int.ofNat 0, Int.ofNat 0, Int.ofNat 0, (lit []), false, false, true, ()), x17, ())) else none else bif x4 == Int.ofNat 3 then bif decide (Int.ofNat 0 ≤ x5) && decide (x5 < Int.ofNat (x13 - x12)) then Option.bind x17[x12 + Int.toNat x5]? fun y => some (Sum.inl (x0, x1, x2, x3, x4, IntKind.wrap IntKind.i64 (x5 + Int.ofNat 1), x6, x7, x8, x9, x10, x11, x12, x13, x14, x15, x16, List.set x17 (x12 + Int.toNat x5) (Int.ofNat 0, Int.ofNat 0, Int.ofNat 0, (lit []), Int.ofNat 0, Int.ofNat 0, Int.ofNat 0, (lit []), false, false, true, ()), ())) else none else none else some (Sum.inr (x0, x1, x2, x3, x4, x6, x7, x8, x9, x10, x11, x12, x13, x14, x15, x16, x17, ())) else bif x4 == Int.ofNat 3 then bif decide (x5 < Int.ofNat (x13 - x12)) then bif x4 == Int.ofNat 0 then bif decide (Int.ofNat 0 ≤ x5) && decide (x5 < Int.ofNat (x7 - x6)) then Option.bind x14[x6 + Int.toNat x5]? fun y => some (Sum.inl (x0, x1, x2, x3, x4, IntKind.wrap IntKind.i64 (x5 + Int.ofNat 1), x6, x7, x8, x9, x10, x11, x12, x13, List.set x14 (x6 + Int.toNat x5) (Int.ofNat 0, Int.ofNat 0, Int.ofNat 0, (lit []), Int.ofNat 0, Int.ofNat 0, Int.ofNat 0, (lit []), false, false, true, ()), x15, x16, x17, ())) else none else bif x4 == Int.ofNat 1 then bif decide (Int.ofNat 0 ≤ x5) && decide (x5 < Int.ofNat (x9 - x8)) then Option.bind x15[x8 + Int.toNat x5]? fun y => some (Sum.inl (x0, x1, x2, x3, x4, IntKind.wrap IntKind.i64 (x5 + Int.ofNat 1), x6, x7, x8, x9, x10, x11, x12, x13, x14, List.set x15 (x8 + Int.toNat x5) (Int.ofNat 0, Int.ofNat 0, Int.ofNat 0, (lit []), Int.ofNat 0, Int.ofNat 0, Int.ofNat 0, (lit []), false, false, true, ()), x16, x17, ())) else none else bif x4 == Int.ofNat 2 then bif decide (Int.ofNat 0 ≤ x5) && decide (x5 < Int.ofNat (x11 - x10)) then Option.bind x16[x10 + Int.toNat x5]? fun y => some (Sum.inl (x0, x1, x2, x3, x4, IntKind.wrap IntKind.i64 (x5 + Int.ofNat 1), x6, x7, x8, x9, x10, x11, x12, x13, x14, x15, List.set x16 (x10 + Int.toNat x5) (Int.ofNat 0, Int.ofNat 0, Int.ofNat 0, (lit []), Int.ofNat 0, Int.ofNat 0, Int.ofNat 0, (lit []), false, false, true, ()), x17, ())) else none else bif x4 == Int.ofNat 3 then bif decide (Int.ofNat 0 ≤ x5) && decide (x5 < Int.ofNat (x13 - x12)) then Option.bind x17[x12 + Int.toNat x5]? fun y => some (Sum.inl (x0, x1, x2, x3, x4, IntKind.wrap IntKind.i64 (x5 + Int.ofNat 1), x6, x7, x8, x9, x10, x11, x12, x13, x14, x15, x16, List.set x17 (x12 + Int.toNat x5) (Int.ofNat 0, Int.ofNat 0, Int.ofNat 0, (lit []), Int.ofNat 0, Int.ofNat 0, Int.ofNat 0, (lit []), false, false, true, ()), ())) else none else none else some (Sum.inr (x0, x1, x2, x3, x4, x6, x7, x8, x9, x10, x11, x12, x13, x14, x15, x16, x17, ())) else none := by kernel_rfl
theorem B13_1_eq (x0 x1 : List Int) (x2 x3 : List R7) (x4 : Int) (x5 x6 x7 x8 x9 x10 x11 x12 : Nat) (x13 x14 x15 x16 : List R7) : B13_1 (x0, x1, x2, x3, x4, x5, x6, x7, x8, x9, x10, x11, x12, x13, x14, x15, x16, ()) =
  bif decide (x4 < Int.ofNat 4) then Option.bind (loop B13_0 (x0, x1, x2, x3, x4, Int.ofNat 0, x5, x6, x7, x8, x9, x10, x11, x12, x13, x14, x15, x16, ())) fun r => some (Sum.inl (r.1, r.2.1, r.2.2.1, r.2.2.2.1, IntKind.wrap IntKind.i64 (r.2.2.2.2.1 + Int.ofNat 1), r.2.2.2.2.2.1, r.2.2.2.2.2.2.1, r.2.2.2.2.2.2.2.1, r.2.2.2.2.2.2.2.2.1, r.2.2.2.2.2.2.2.2.2.1, r.2.2.2.2.2.2.2.2.2.2.1, r.2.2.2.2.2.2.2.2.2.2.2.1, r.2.2.2.2.2.2.2.2.2.2.2.2.1, r.2.2.2.2.2.2.2.2.2.2.2.2.2.1, r.2.2.2.2.2.2.2.2.2.2.2.2.2.2.1, r.2.2.2.2.2.2.2.2.2.2.2.2.2.2.2.1, r.2.2.2.2.2.2.2.2.2.2.2.2.2.2.2.2.1, ())) else some (Sum.inr (x0, x1, x2, x3, ())) := by kernel_rfl
theorem F13_eq (x0 x1 : List Int) : F13 (x0, x1, ()) =
  Option.bind (F15 (x0, ())) fun r => Option.bind (F15 (x1, ())) fun r_1 => Option.bind (F16o (r.1, r_1.1, ())) fun r_2 => Option.bind (F17o ([r.1, r_1.1], ())) fun r_3 => Option.bind (F17o ([r.1], ())) fun r_4 => Option.bind (F18o (r.1, ())) fun r_5 => Option.bind (loop B13_1 (x0, x1, r.1, r_1.1, Int.ofNat 0, r_2.1, r_2.2.1, r_3.1, r_3.2.1, r_4.1, r_4.2.1, r_5.1, r_5.2.1, r_2.2.2.1, r_3.2.2.1, r_4.2.2.1, r_5.2.2.1, ())) fun r => Option.bind (F15 (r.1, ())) fun r_6 => Option.bind (F19 (r.2.2.1, r_6.1, ())) fun r_7 => bif r_7.1 then Option.bind (F15 (r.2.1, ())) fun r_8 => Option.bind (F19 (r.2.2.2.1, r_8.1, ())) fun r => some (r.1, ()) else some (false, ()) := by kernel_rfl
end Go.Vx.Z
