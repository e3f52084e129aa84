import Derived.Test.YtildhhdbikpbaaaGreatDoorV4
set_option linter.unusedSimpArgs false
/-! ver.Parse, of the program, of the document. -/
namespace Go.Vx
open Go
set_option linter.unusedVariables false
theorem splitB_jn (l : List UInt8) : jn (splitB 46 l) = l := by
  induction l with
  | nil => rfl
  | cons x l ih =>
    rw [splitB_cons]
    have hne := splitB_ne 46 l
    cases hs : splitB 46 l with
    | nil => exact absurd hs hne
    | cons w ws =>
      rw [hs] at ih
      by_cases hx : x = 46
      · subst hx
        rw [if_pos (by decide)]
        show [] ++ 46 :: jn (w :: ws) = _
        rw [ih]; rfl
      · rw [if_neg (by simpa using hx)]
        cases ws with
        | nil => show x :: w = _; rw [← ih]; rfl
        | cons v ws => show (x :: w) ++ 46 :: jn (v :: ws) = _; rw [← ih]; rfl
theorem idx_tw (c : UInt8) (l : List UInt8) : Lib.indexByte l c = if l.dropWhile (fun x => !(x == c)) = [] then -1 else ((l.takeWhile (fun x => !(x == c))).length : Int) := by
  induction l with
  | nil => rfl
  | cons x l ih =>
    unfold Lib.indexByte
    rw [List.takeWhile_cons, List.dropWhile_cons]
    cases hx : x == c with
    | true => simp
    | false =>
      rw [ih]
      simp only [Bool.not_false, if_true, Bool.false_eq_true, if_false]
      by_cases h : l.dropWhile (fun x => !(x == c)) = []
      · rw [if_pos h, if_pos h]; rfl
      · rw [if_neg h, if_neg h]
        have h2 : ∀ n : Nat, (((n : Nat) : Int) == -1) = false := fun n => by
          rw [← Bool.not_eq_true, beq_iff_eq]; omega
        rw [h2]
        simp
def scanN (l : List UInt8) : Option (Nat × List UInt8) := (numOf (l.takeWhile dig1)).map fun n => (n, l.dropWhile dig1)
def sepN (c : UInt8) (l : List UInt8) : Option (Nat × List UInt8) := match l with
  | x :: r => if x = c then scanN r else none
  | [] => none
def tailP (l : List UInt8) : Option (List UInt8) := match l with
  | [] => some []
  | x :: r => if x = 45 ∧ r ≠ [] then some r else none
theorem tailP_cons (x : UInt8) (r : List UInt8) : tailP (x :: r) = if x = 45 ∧ r ≠ [] then some r else none := rfl
def scanV (r : List UInt8) : Option (Nat × Nat × Nat × List UInt8) := (scanN r).bind fun a => (sepN 46 a.2).bind fun b => (sepN 46 b.2).bind fun c => (tailP c.2).map fun p => (a.1, b.1, c.1, p)
def verP (l : List UInt8) : Option (Nat × Nat × Nat × List UInt8) := match l with
  | x :: r => if x = 118 then (scanV r).bind fun v => if rightB v.1 v.2.1 v.2.2.1 v.2.2.2 = true then some v else none else none
  | [] => none
def Form (r : List UInt8) (v : Nat × Nat × Nat × List UInt8) : Prop := ∃ a b c t, r = a ++ 46 :: (b ++ 46 :: (c ++ t)) ∧ numOf a = some v.1 ∧ numOf b = some v.2.1 ∧ numOf c = some v.2.2.1 ∧ tailP t = some v.2.2.2
theorem num_dig {l : List UInt8} {n : Nat} (h : numOf l = some n) : ∀ c ∈ l, dig1 c = true := by
  unfold numOf at h
  split at h
  · cases h
  · rename_i h1
    have : l.all dig1 = true := by
      cases ha : l.all dig1 with
      | true => rfl
      | false => exact absurd (.inr (.inr (.inr ha))) h1
    exact List.all_eq_true.1 this
theorem scanN_iff {l : List UInt8} {n : Nat} {r : List UInt8} : scanN l = some (n, r) ↔ ∃ a, l = a ++ r ∧ numOf a = some n ∧ ∀ c m, r = c :: m → dig1 c = false := by
  unfold scanN
  rw [Option.map_eq_some_iff]
  constructor
  · rintro ⟨k, h1, h2⟩
    simp only [Prod.mk.injEq] at h2
    obtain ⟨rfl, rfl⟩ := h2
    exact ⟨l.takeWhile dig1, (List.takeWhile_append_dropWhile).symm, h1, dw_head l⟩
  · rintro ⟨a, rfl, h1, h2⟩
    obtain ⟨h3, h4⟩ := tw_app a r (num_dig h1) h2
    exact ⟨n, by rw [h3]; exact h1, by rw [h4]⟩
theorem sepN_iff {c : UInt8} {l : List UInt8} {n : Nat} {r : List UInt8} : sepN c l = some (n, r) ↔ ∃ a, l = c :: (a ++ r) ∧ numOf a = some n ∧ ∀ c m, r = c :: m → dig1 c = false := by
  cases l with
  | nil => simp [sepN]
  | cons x l =>
    show (if x = c then scanN l else none) = _ ↔ _
    by_cases hx : x = c
    · subst hx
      rw [if_pos rfl, scanN_iff]
      simp
    · rw [if_neg hx]
      constructor
      · intro h; cases h
      · rintro ⟨a, h, _⟩
        injection h with h1 _
        exact absurd h1 hx
theorem tail_nd {t p : List UInt8} (h : tailP t = some p) : ∀ c m, t = c :: m → dig1 c = false := by
  intro c m hc
  subst hc
  unfold tailP at h
  split at h
  · cases ‹_ :: _ = []›
  · rename_i x r hx
    injection hx with h1 _
    subst h1
    split at h
    · rename_i h3; rw [h3.1]; rfl
    · cases h
theorem nd46 (m : List UInt8) : ∀ c k, (46 :: m) = c :: k → dig1 c = false := by
  intro c k h
  injection h with h _
  rw [← h]; rfl
theorem scanV_iff {r : List UInt8} {v : Nat × Nat × Nat × List UInt8} : scanV r = some v ↔ Form r v := by
  obtain ⟨A, B, C, p⟩ := v
  unfold scanV Form
  simp only [Option.bind_eq_some_iff, Option.map_eq_some_iff, Prod.mk.injEq, Prod.exists]
  constructor
  · rintro ⟨a, r1, h1, b, r2, h2, c, r3, h3, q, h4, rfl, rfl, rfl, rfl⟩
    obtain ⟨u, rfl, k1, _⟩ := scanN_iff.1 h1
    obtain ⟨v, rfl, k2, _⟩ := sepN_iff.1 h2
    obtain ⟨w, rfl, k3, _⟩ := sepN_iff.1 h3
    exact ⟨u, v, w, r3, rfl, k1, k2, k3, h4⟩
  · rintro ⟨u, v, w, t, rfl, k1, k2, k3, h4⟩
    exact ⟨A, _, scanN_iff.2 ⟨u, rfl, k1, nd46 _⟩, B, _, sepN_iff.2 ⟨v, rfl, k2, nd46 _⟩, C, _, sepN_iff.2 ⟨w, rfl, k3, tail_nd h4⟩, p, h4, rfl, rfl, rfl, rfl⟩
abbrev front (r : List UInt8) : List UInt8 := r.takeWhile fun x => !(x == 45)
abbrev behind (r : List UInt8) : List UInt8 := r.dropWhile fun x => !(x == 45)
theorem split_iff {r : List UInt8} {v : Nat × Nat × Nat × List UInt8} : Form r v ↔ ∃ a b c, splitB 46 (front r) = [a, b, c] ∧ numOf a = some v.1 ∧ numOf b = some v.2.1 ∧ numOf c = some v.2.2.1 ∧ tailP (behind r) = some v.2.2.2 := by
  unfold Form
  constructor
  · rintro ⟨a, b, c, t, rfl, k1, k2, k3, h4⟩
    have ht : ∀ x m, t = x :: m → (!(x == 45)) = false := by
      intro x m hx
      subst hx
      unfold tailP at h4
      split at h4
      · cases ‹_ :: _ = []›
      · rename_i y r hy
        injection hy with h1 _
        subst h1
        split at h4
        · rename_i h3; rw [h3.1]; rfl
        · cases h4
    have hd : ∀ x, dig1 x = true → (!(x == 45)) = true ∧ x ≠ 46 := by
      intro x hx
      have := Z.dig_lt hx
      refine ⟨?_, fun h => ?_⟩
      · rw [Bool.not_eq_true', ← Bool.not_eq_true, beq_iff_eq]
        intro h
        rw [h] at this
        have h2 : (45 : UInt8).toNat = 45 := rfl
        omega
      · rw [h] at this
        have h2 : (46 : UInt8).toNat = 46 := rfl
        omega
    have e : a ++ 46 :: (b ++ 46 :: (c ++ t)) = (a ++ 46 :: (b ++ 46 :: c)) ++ t := by simp
    obtain ⟨h5, h6⟩ := tw_app (p := fun x => !(x == (45 : UInt8))) (a ++ 46 :: (b ++ 46 :: c)) t (by
      intro x hx
      rcases List.mem_append.1 hx with hx | hx
      · exact (hd x (num_dig k1 x hx)).1
      rcases List.mem_cons.1 hx with rfl | hx
      · rfl
      rcases List.mem_append.1 hx with hx | hx
      · exact (hd x (num_dig k2 x hx)).1
      rcases List.mem_cons.1 hx with rfl | hx
      · rfl
      · exact (hd x (num_dig k3 x hx)).1) ht
    refine ⟨a, b, c, ?_, k1, k2, k3, ?_⟩
    · show splitB 46 (List.takeWhile _ _) = _
      rw [e, h5, splitB_yes 46 a _ (fun h => (hd 46 (num_dig k1 46 h)).2 rfl), splitB_yes 46 b _ (fun h => (hd 46 (num_dig k2 46 h)).2 rfl), splitB_no 46 c (fun h => (hd 46 (num_dig k3 46 h)).2 rfl)]
    · show tailP (List.dropWhile _ _) = _
      rw [e, h6]
      exact h4
  · rintro ⟨a, b, c, hs, k1, k2, k3, h4⟩
    have hj := splitB_jn (front r)
    rw [hs] at hj
    refine ⟨a, b, c, behind r, ?_, k1, k2, k3, h4⟩
    have := List.takeWhile_append_dropWhile (p := fun x => !(x == (45 : UInt8))) (l := r)
    conv => lhs; rw [← this]
    show front r ++ behind r = _
    rw [← hj]
    simp [jn]
namespace Z
set_option maxRecDepth 100000
def verR (l : List UInt8) : Int × Int × Int × ByteArray × Bool × Unit := match verP l with
  | some v => ((v.1 : Int), (v.2.1 : Int), (v.2.2.1 : Int), lit v.2.2.2, true, ())
  | none => (0, 0, 0, lit [], false, ())
theorem F104_is (s : ByteArray) (hs : s.size ≤ 1099511627776) : F104 (s, ()) = some (s, ()) := by
  have hl := bs_size s
  rw [F104_eq, F140_eq]
  by_cases h0 : s.size = 0
  · rw [show (Int.ofNat s.size == Int.ofNat 0) = true by rw [h0]; rfl, cond_true, obs]
    have : s = lit [] := bs_inj (List.length_eq_zero_iff.1 (by omega))
    rw [this]
  · rw [show (Int.ofNat s.size == Int.ofNat 0) = false by rw [← Bool.not_eq_true, beq_iff_eq]; intro h; exact h0 (by injection h), cond_false]
    have e1 : (decide (Int.ofNat 0 ≤ Int.ofNat s.size) && (decide (Int.ofNat s.size ≤ Int.ofNat s.size) && decide (Int.ofNat 1 * Int.ofNat s.size ≤ Int.ofNat 281474976710656) && decide (Int.ofNat s.size ≤ Int.ofNat 9223372036854775807))) = true := by
      simp only [Bool.and_eq_true, decide_eq_true_eq]
      refine ⟨Int.natCast_nonneg _, ⟨Int.le_refl _, ?_⟩, ?_⟩
      · show (1 : Int) * (s.size : Int) ≤ 281474976710656; omega
      · show (s.size : Int) ≤ 9223372036854775807; omega
    rw [e1, cond_true]
    have hn : (Int.ofNat s.size).toNat = s.size := rfl
    rw [hn, List.length_replicate, decide_eq_true (Nat.le_refl s.size), cond_true]
    have hd : List.drop s.size (List.replicate s.size (Int.ofNat 0)) = [] := by simp
    rw [hd, List.append_nil]
    have hm : List.map (fun b => Int.ofNat b.1.1.1) (bl s) = ib (bs s) := rfl
    rw [hm, ib_ok, beq_self_eq_true, Bool.and_self]
    have hlen : (ib (bs s)).length = s.size := by unfold ib; rw [List.length_map, hl]
    rw [hlen, decide_eq_true (show Int.ofNat 0 < Int.ofNat s.size by show (0 : Int) < (s.size : Int); omega), cond_true, cond_true, obs, bstr_ib, lit_bs]
theorem bt_lit1 (c : UInt8) : bt (lit [c]) (Int.ofNat 0) = ((c.toNat : Nat) : Int) := rfl
theorem F162_one (s : ByteArray) (c : UInt8) : F162 (s, lit [c], ()) = some (Lib.indexByte (bs s) c, ()) := by
  rw [F162_eq]
  have h1 : (Int.ofNat (ByteArray.size (lit [c])) == Int.ofNat 0) = false := rfl
  have h2 : (Int.ofNat (ByteArray.size (lit [c])) == Int.ofNat 1) = true := rfl
  have h3 : decide (Int.ofNat 0 < Int.ofNat (ByteArray.size (lit [c]))) = true := rfl
  rw [h1, h2, h3, F161_eq, xIndexByte_eq, bt_lit1, Int.toNat_natCast]
  have h4 : c.toNat.toUInt8 = c := UInt8.ofNat_toNat
  rw [h4]
  simp only [cond_false, cond_true, obs]
  cases hd : (bl (lit [c]) == bl s) with
  | false => rfl
  | true =>
    have : bl (lit [c]) = bl s := by simpa using hd
    rw [bs_toList, bs_toList] at this
    rw [← this, bs_lit]
    unfold Lib.indexByte
    rw [if_pos (by simp)]
    rfl
theorem F101_is (s : ByteArray) (hs : s.size ≤ 1099511627776) : F101 (s, (lit [45]), ()) = some (lit (front (bs s)), lit ((behind (bs s)).drop 1), !(behind (bs s)).isEmpty, ()) := by
  have hl := bs_size s
  rw [F101_eq, F138_eq, F162_one, obs, idx_tw]
  have happ := List.takeWhile_append_dropWhile (p := fun x => !(x == (45 : UInt8))) (l := bs s)
  by_cases hd : behind (bs s) = []
  · have hd' : (bs s).dropWhile (fun x => !(x == (45 : UInt8))) = [] := hd
    rw [if_pos hd']
    rw [hd', List.append_nil] at happ
    have e : lit (front (bs s)) = s := bs_inj happ
    rw [e, hd]
    rfl
  · have hd' : ¬ (bs s).dropWhile (fun x => !(x == (45 : UInt8))) = [] := hd
    rw [if_neg hd']
    have hk : (front (bs s)).length < (bs s).length := by
      have h1 := congrArg List.length happ
      rw [List.length_append] at h1
      have h2 := List.length_pos_iff.2 hd'
      show ((bs s).takeWhile _).length < _
      omega
    have h1 : front (bs s) = (bs s).take (front (bs s)).length := tw_take _ _
    have h2 : behind (bs s) = (bs s).drop (front (bs s)).length := dw_drop _ _
    rw [show ((bs s).takeWhile fun x => !(x == (45 : UInt8))).length = (front (bs s)).length from rfl]
    rw [show (!(behind (bs s)).isEmpty) = true by cases hb : behind (bs s) with | nil => exact absurd hb hd | cons x l => rfl]
    generalize hF : front (bs s) = f at *
    generalize hB : behind (bs s) = d at *
    have e1 : decide ((f.length : Int) ≥ Int.ofNat 0) = true := ge_zero _
    have e3 : IntKind.wrap IntKind.i64 ((f.length : Int) + Int.ofNat (ByteArray.size (lit [45]))) = ((f.length + 1 : Nat) : Int) := wrap64s f.length (by omega)
    have e4 : (decide (Int.ofNat 0 ≤ ((f.length + 1 : Nat) : Int)) && (decide (((f.length + 1 : Nat) : Int) ≤ Int.ofNat s.size) && decide (Int.ofNat s.size ≤ Int.ofNat s.size))) = true := by
      rw [ge_zero, Bool.true_and, Bool.and_eq_true, decide_eq_true_eq, decide_eq_true_eq]
      exact ⟨by show ((f.length + 1 : Nat) : Int) ≤ (s.size : Int); omega, Int.le_refl _⟩
    have e2' : decide ((f.length : Int) ≤ Int.ofNat s.size) = true := decide_eq_true (by show (f.length : Int) ≤ (s.size : Int); omega)
    simp only [e1, e2', e3, e4, cond_true, Bool.and_self, obs]
    refine congrArg some ?_
    have i1 : s.extract 0 (Int.toNat (f.length : Int)) = lit f := bs_inj (by rw [bs_extract, Int.toNat_natCast, List.drop_zero, bs_lit]; exact h1.symm)
    have i2 : s.extract (Int.toNat ((f.length + 1 : Nat) : Int)) (Int.toNat (Int.ofNat s.size)) = lit (d.drop 1) := bs_inj (by
      rw [bs_extract, Int.toNat_natCast, bs_lit]
      show ((bs s).take s.size).drop (f.length + 1) = _
      rw [hl, List.take_length, h2, List.drop_drop])
    rw [i1, i2]
theorem F106_is (s t : ByteArray) : F106 (s, t, ()) = some (decide (bs t <+: bs s), ()) := by
  rw [F106_eq]
  have hl := bs_size s
  have ht := bs_size t
  by_cases h : t.size ≤ s.size
  · rw [show decide (Int.ofNat s.size ≥ Int.ofNat t.size) = true from decide_eq_true (by show (t.size : Int) ≤ (s.size : Int); omega), cond_true]
    rw [show decide (Int.ofNat 0 ≤ Int.ofNat t.size) = true from decide_eq_true (Int.natCast_nonneg _), Bool.and_self, cond_true]
    refine congrArg (fun z => some (z, ())) ?_
    have e3 : bl (s.extract 0 (Int.toNat (Int.ofNat t.size))) = (bs s).take t.size := by
      rw [bs_toList, bs_extract, List.drop_zero]; rfl
    rw [e3, bs_toList, Bool.eq_iff_iff, beq_iff_eq, decide_eq_true_eq, ht]
    constructor
    · intro h; rw [← h]; exact List.take_prefix _ _
    · intro h; exact (List.prefix_iff_eq_take.1 h).symm
  · rw [show decide (Int.ofNat s.size ≥ Int.ofNat t.size) = false from decide_eq_false (by show ¬ (t.size : Int) ≤ (s.size : Int); omega), cond_false]
    refine congrArg (fun z => some (z, ())) (decide_eq_false ?_).symm
    intro hp
    have := hp.length_le
    omega
theorem pre_one (c : UInt8) (l : List UInt8) : ([c] <+: l) = (l.head? = some c) := by
  apply propext
  cases l with
  | nil => simp
  | cons x l => simp [List.cons_prefix_cons]; exact eq_comm
theorem F100_is (s : ByteArray) : F100 (s, (lit [118]), ()) = some (if (bs s).head? = some 118 then s.extract 1 s.size else s, decide ((bs s).head? = some 118), ()) := by
  rw [F100_eq, F137_eq, F106_is, obs, bs_lit]
  have hp := pre_one 118 (bs s)
  by_cases h : (bs s).head? = some 118
  · rw [if_pos h, decide_eq_true h, decide_eq_true (hp ▸ h)]
    have hl := bs_size s
    have hpos : 1 ≤ s.size := by
      cases hb : bs s with
      | nil => rw [hb] at h; cases h
      | cons x l => rw [hl, hb]; simp
    have e : (decide (Int.ofNat 0 ≤ Int.ofNat (ByteArray.size (lit [118]))) && (decide (Int.ofNat (ByteArray.size (lit [118])) ≤ Int.ofNat s.size) && decide (Int.ofNat s.size ≤ Int.ofNat s.size))) = true := by
      simp only [Bool.and_eq_true, decide_eq_true_eq]
      exact ⟨by decide, by show (1 : Int) ≤ (s.size : Int); omega, Int.le_refl _⟩
    simp only [Bool.not_true, cond_false, e, cond_true, obs]
    rfl
  · rw [if_neg h, decide_eq_false h, decide_eq_false (hp ▸ h)]
    rfl
theorem B80_is (pre : ByteArray) (x y z : ByteArray) (w : ByteArray) (r : Sum (Bool × Int × Int × Int × ByteArray × Unit) (ByteArray × Int × Int × Int × ByteArray × Int × Int × Int × ByteArray × Unit))
    (hr : r = match numOf (bs x), numOf (bs y), numOf (bs z) with
      | some a, some b, some c => .inr (pre, 0, 0, 0, lit [], (a : Int), (b : Int), (c : Int), lit [], ())
      | _, _, _ => .inl (false, 0, 0, 0, lit [], ())) :
    loop B80_0 (pre, [x, y, z], Int.ofNat 3, Int.ofNat 0, Int.ofNat 0, Int.ofNat 0, Int.ofNat 0, (lit []), Int.ofNat 0, Int.ofNat 0, Int.ofNat 0, (lit []), ()) = some r := by
  cases hx : numOf (bs x) with
  | none =>
    rw [hx] at hr
    rw [hr]
    refine loop_end ?_
    rw [B80_0_eq]
    simp only [show decide (Int.ofNat 0 < Int.ofNat 3) = true from rfl, show (Int.ofNat 0 == Int.ofNat 0) = true from rfl, show decide (Int.ofNat 0 ≤ Int.ofNat 0) = true from rfl, cond_true, show [x, y, z][Int.toNat (Int.ofNat 0)]? = some x from rfl, obs, F103_is]
    unfold numR
    rw [hx]
    rfl
  | some a =>
    rw [hx] at hr
    refine loop_step (q := (pre, [x, y, z], Int.ofNat 3, Int.ofNat 1, Int.ofNat 0, Int.ofNat 0, Int.ofNat 0, (lit []), (a : Int), Int.ofNat 0, Int.ofNat 0, (lit []), ())) ?_ ?_
    · rw [B80_0_eq]
      simp only [show decide (Int.ofNat 0 < Int.ofNat 3) = true from rfl, show (Int.ofNat 0 == Int.ofNat 0) = true from rfl, show decide (Int.ofNat 0 ≤ Int.ofNat 0) = true from rfl, cond_true, show [x, y, z][Int.toNat (Int.ofNat 0)]? = some x from rfl, obs, F103_is]
      unfold numR
      rw [hx]
      rfl
    · cases hy : numOf (bs y) with
      | none =>
        rw [hy] at hr
        rw [hr]
        refine loop_end ?_
        rw [B80_0_eq]
        simp only [show decide (Int.ofNat 1 < Int.ofNat 3) = true from rfl, show (Int.ofNat 1 == Int.ofNat 0) = false from rfl, show (Int.ofNat 1 == Int.ofNat 1) = true from rfl, show decide (Int.ofNat 0 ≤ Int.ofNat 1) = true from rfl, cond_true, cond_false, show [x, y, z][Int.toNat (Int.ofNat 1)]? = some y from rfl, obs, F103_is]
        unfold numR
        rw [hy]
        rfl
      | some b =>
        rw [hy] at hr
        refine loop_step (q := (pre, [x, y, z], Int.ofNat 3, Int.ofNat 2, Int.ofNat 0, Int.ofNat 0, Int.ofNat 0, (lit []), (a : Int), (b : Int), Int.ofNat 0, (lit []), ())) ?_ ?_
        · rw [B80_0_eq]
          simp only [show decide (Int.ofNat 1 < Int.ofNat 3) = true from rfl, show (Int.ofNat 1 == Int.ofNat 0) = false from rfl, show (Int.ofNat 1 == Int.ofNat 1) = true from rfl, show decide (Int.ofNat 0 ≤ Int.ofNat 1) = true from rfl, cond_true, cond_false, show [x, y, z][Int.toNat (Int.ofNat 1)]? = some y from rfl, obs, F103_is]
          unfold numR
          rw [hy]
          rfl
        · cases hz : numOf (bs z) with
          | none =>
            rw [hz] at hr
            rw [hr]
            refine loop_end ?_
            rw [B80_0_eq]
            simp only [show decide (Int.ofNat 2 < Int.ofNat 3) = true from rfl, show (Int.ofNat 2 == Int.ofNat 0) = false from rfl, show (Int.ofNat 2 == Int.ofNat 1) = false from rfl, show (Int.ofNat 2 == Int.ofNat 2) = true from rfl, show decide (Int.ofNat 0 ≤ Int.ofNat 2) = true from rfl, cond_true, cond_false, show [x, y, z][Int.toNat (Int.ofNat 2)]? = some z from rfl, obs, F103_is]
            unfold numR
            rw [hz]
            rfl
          | some c =>
            rw [hz] at hr
            rw [hr]
            refine loop_step (q := (pre, [x, y, z], Int.ofNat 3, Int.ofNat 3, Int.ofNat 0, Int.ofNat 0, Int.ofNat 0, (lit []), (a : Int), (b : Int), (c : Int), (lit []), ())) ?_ (loop_end ?_)
            · rw [B80_0_eq]
              simp only [show decide (Int.ofNat 2 < Int.ofNat 3) = true from rfl, show (Int.ofNat 2 == Int.ofNat 0) = false from rfl, show (Int.ofNat 2 == Int.ofNat 1) = false from rfl, show (Int.ofNat 2 == Int.ofNat 2) = true from rfl, show decide (Int.ofNat 0 ≤ Int.ofNat 2) = true from rfl, cond_true, cond_false, show [x, y, z][Int.toNat (Int.ofNat 2)]? = some z from rfl, obs, F103_is]
              unfold numR
              rw [hz]
              rfl
            · rw [B80_0_eq]
              rfl
theorem verP_cons (r : List UInt8) : verP (118 :: r) = (scanV r).bind fun v => if rightB v.1 v.2.1 v.2.2.1 v.2.2.2 = true then some v else none := by
  show (if (118 : UInt8) = 118 then _ else none) = _
  exact if_pos rfl
theorem verP_no {l : List UInt8} (h : ¬ l.head? = some 118) : verP l = none := by
  cases l with
  | nil => rfl
  | cons x r =>
    show (if x = 118 then _ else none) = _
    rw [if_neg (by intro hx; exact h (by rw [hx]; rfl))]
theorem F80_is (s : ByteArray) (hs : s.size ≤ 1099511627000) : F80 (s, ()) = some (verR (bs s)) := by
  have hl := bs_size s
  rw [F80_eq, F100_is, obs]
  by_cases hh : (bs s).head? = some 118
  · rw [if_pos hh, decide_eq_true hh]
    obtain ⟨r, hr⟩ : ∃ r, bs s = 118 :: r := by
      cases hb : bs s with
      | nil => rw [hb] at hh; cases hh
      | cons x r => rw [hb] at hh; injection hh with hh; exact ⟨r, by rw [hh]⟩
    have he : bs (s.extract 1 s.size) = r := by rw [bs_extract, hl, List.take_length, hr]; rfl
    generalize s.extract 1 s.size = u at *
    have hu : u.size ≤ 1099511627000 := by rw [bs_size, he]; rw [hr] at hl; simp at hl; omega
    simp only
    rw [F101_is u (by omega), obs, he]
    simp only
    have hfs : (lit (front r)).size ≤ 1099511627000 := by
      have h1 := tw_len (fun x => !(x == (45 : UInt8))) r
      have h2 := bs_size u
      rw [he] at h2
      show (front r).length ≤ _
      show (r.takeWhile _).length ≤ _
      omega
    have h102 : F102 (lit (front r), (lit [46]), ()) = some (splitDot (lit (front r)), ()) := F102_dot _ (by omega)
    rw [h102, obs]
    unfold splitDot
    rw [bs_lit]
    unfold verR
    rw [hr, verP_cons]
    have hiff := fun v => (scanV_iff (r := r) (v := v)).trans split_iff
    simp only [Bool.not_true, cond_false, List.length_map]
    have hbeh : (behind r).length ≤ r.length := by
      have h1 := List.takeWhile_append_dropWhile (p := fun x => !(x == (45 : UInt8))) (l := r)
      have h2 := congrArg List.length h1
      rw [List.length_append] at h2
      show (r.dropWhile _).length ≤ _
      omega
    by_cases h3 : (splitB 46 (front r)).length = 3
    · rw [h3]
      simp only [show (Int.ofNat 3 == Int.ofNat 3) = true from rfl, Bool.not_true, cond_false]
      obtain ⟨a, b, c, habc⟩ : ∃ a b c, splitB 46 (front r) = [a, b, c] := by
        generalize splitB 46 (front r) = l at h3
        match l, h3 with
        | [a, b, c], _ => exact ⟨a, b, c, rfl⟩
      rw [habc] at hiff ⊢
      simp only [List.cons.injEq, and_true] at hiff
      have hiff2 : ∀ v, scanV r = some v ↔ numOf a = some v.1 ∧ numOf b = some v.2.1 ∧ numOf c = some v.2.2.1 ∧ tailP (behind r) = some v.2.2.2 := fun v => (hiff v).trans ⟨by rintro ⟨a', b', c', ⟨rfl, rfl, rfl⟩, h⟩; exact h, fun h => ⟨a, b, c, ⟨rfl, rfl, rfl⟩, h⟩⟩
      -- what is behind the mark
      have key : ∀ (pre : List UInt8), tailP (behind r) = some pre → lit ((behind r).drop 1) = lit pre →
          (Option.bind (loop B80_0 (lit ((behind r).drop 1), List.map lit [a, b, c], Int.ofNat 3, Int.ofNat 0, Int.ofNat 0, Int.ofNat 0, Int.ofNat 0, (lit []), Int.ofNat 0, Int.ofNat 0, Int.ofNat 0, (lit []), ())) fun r => Sum.elim (fun p => some (p.2.1, p.2.2.1, p.2.2.2.1, p.2.2.2.2.1, p.1, ())) (fun p => Option.bind (F104 (p.1, ())) fun r => Option.bind (F105 (p.2.2.2.2.2.1, p.2.2.2.2.2.2.1, p.2.2.2.2.2.2.2.1, r.1, ())) fun r_3 => bif !r_3.1 then some (Int.ofNat 0, Int.ofNat 0, Int.ofNat 0, (lit []), false, ()) else some (p.2.2.2.2.2.1, p.2.2.2.2.2.2.1, p.2.2.2.2.2.2.2.1, r.1, true, ())) r) = some (match ((scanV r).bind fun v => if rightB v.1 v.2.1 v.2.2.1 v.2.2.2 = true then some v else none : Option (Nat × Nat × Nat × List UInt8)) with
            | some v => ((v.1 : Int), (v.2.1 : Int), (v.2.2.1 : Int), lit v.2.2.2, true, ())
            | none => (0, 0, 0, lit [], false, ())) := by
        intro pre hp hlp
        have hps : (lit pre).size ≤ 1099511627776 := by
          rw [← hlp]
          show ((behind r).drop 1).length ≤ _
          rw [List.length_drop]
          rw [hr] at hl
          simp only [List.length_cons] at hl
          omega
        rw [hlp]
        rw [show List.map lit [a, b, c] = [lit a, lit b, lit c] from rfl, B80_is (lit pre) (lit a) (lit b) (lit c) (lit []) _ rfl, obs]
        simp only [bs_lit]
        have hno : (numOf a = none ∨ numOf b = none ∨ numOf c = none) → scanV r = none := by
          intro h
          cases hv : scanV r with
          | none => rfl
          | some v =>
            obtain ⟨k1, k2, k3, _⟩ := (hiff2 v).1 hv
            rcases h with h | h | h
            · rw [h] at k1; cases k1
            · rw [h] at k2; cases k2
            · rw [h] at k3; cases k3
        cases ha : numOf a with
        | none => rw [hno (.inl ha)]; rfl
        | some A =>
        cases hb : numOf b with
        | none => rw [hno (.inr (.inl hb))]; rfl
        | some B =>
        cases hc : numOf c with
        | none => rw [hno (.inr (.inr hc))]; rfl
        | some C =>
          have hv := (hiff2 (A, B, C, pre)).2 ⟨ha, hb, hc, hp⟩
          rw [hv]
          simp only [Sum.elim_inr, Option.bind_some]
          rw [F104_is _ hps, obs, F105_is, obs, bs_lit]
          cases hrt : rightB A B C pre with
          | false => rfl
          | true => rfl
      cases hb : behind r with
      | nil =>
        have hp : tailP (behind r) = some [] := by rw [hb]; rfl
        have := key [] hp (by rw [hb]; rfl)
        rw [hb] at this
        exact this
      | cons x t =>
        simp only [List.isEmpty_cons, Bool.not_false, cond_true]
        have hx : x = 45 := by
          have := dw_head r x t hb
          simpa using this
        rw [nil_bs, bs_lit, show (x :: t).drop 1 = t from rfl]
        by_cases ht : t = []
        · rw [decide_eq_true ht, cond_true]
          have : scanV r = none := by
            cases hv : scanV r with
            | none => rfl
            | some v =>
              obtain ⟨_, _, _, k4⟩ := (hiff2 v).1 hv
              rw [hb, ht, tailP_cons, if_neg (fun h => h.2 rfl)] at k4
              cases k4
          rw [this]
          rfl
        · rw [decide_eq_false ht, cond_false]
          have hp : tailP (behind r) = some t := by
            rw [hb, tailP_cons, if_pos ⟨hx, ht⟩]
          have := key t hp (by rw [hb]; rfl)
          rw [hb] at this
          exact this
    · have : scanV r = none := by
        cases hv : scanV r with
        | none => rfl
        | some v =>
          obtain ⟨a, b, c, h, _⟩ := (hiff v).1 hv
          rw [h] at h3
          exact absurd rfl h3
      rw [this]
      have h4 : (Int.ofNat (splitB 46 (front r)).length == Int.ofNat 3) = false := by
        rw [← Bool.not_eq_true, beq_iff_eq]
        intro h
        exact h3 (by injection h)
      rw [h4]
      rfl
  · rw [if_neg hh, decide_eq_false hh]
    simp only
    have hfs : (lit (front (bs s))).size ≤ 1099511627776 := by
      have h1 := tw_len (fun x => !(x == (45 : UInt8))) (bs s)
      show ((bs s).takeWhile _).length ≤ _
      omega
    have h102 : F102 (lit (front (bs s)), (lit [46]), ()) = some (splitDot (lit (front (bs s))), ()) := F102_dot _ hfs
    rw [F101_is s (by omega), obs]
    simp only
    rw [h102, obs]
    unfold verR
    rw [verP_no hh]
    rfl
end Z
end Go.Vx
/-! The document's ver.Parse. -/
namespace Go.Vx.Z
open Go Go.Vx
set_option linter.unusedVariables false
set_option maxRecDepth 100000
def put (i : Nat) (n : Int) (t : Int × Int × Int) : Int × Int × Int := if i = 0 then (n, t.2.1, t.2.2) else if i = 1 then (t.1, n, t.2.2) else (t.1, t.2.1, n)
end Go.Vx.Z
/-! Versions that are bumped. -/
namespace Go.Vx.Z
open Go Go.Vx
set_option linter.unusedVariables false
set_option maxRecDepth 100000
abbrev Num3 := Int × Int × Int
def bump0 (A : Int) : Option Num3 := if A < 999999 then some (A + 1, 0, 0) else none
def bump1 (A B : Int) : Option Num3 := if B < 999999 then some (A, B + 1, 0) else bump0 A
def bump2 (A B C : Int) : Option Num3 := if C < 999999 then some (A, B, C + 1) else bump1 A B
def bumpV (k : Nat) (A B C : Int) : Option Num3 := match k with
  | 0 => bump0 A
  | 1 => bump1 A B
  | _ => bump2 A B C
def bumpR (o : Option Num3) : Int × Int × Int × ByteArray × Bool × Bool × Unit := match o with
  | some t => (t.1, t.2.1, t.2.2, lit [48], false, false, ())
  | none => (0, 0, 0, lit [], false, true, ())
def bumpS (o : Option Num3) : (Int × Int × Int × ByteArray × Bool × Bool × Unit) ⊕ (Int × Int × Int × ByteArray × Bool × Bool × Unit) := match o with
  | some t => .inl (t.1, t.2.1, t.2.2, lit [48], false, false, ())
  | none => .inr (0, 0, 0, lit [], false, false, ())
theorem lt_top {A : Int} (h : A < 999999) : decide (A < Int.ofNat 999999) = true := decide_eq_true h
theorem nlt_top {A : Int} (h : ¬ A < 999999) : decide (A < Int.ofNat 999999) = false := decide_eq_false h
theorem up_one {A : Int} (h0 : 0 ≤ A) (h : A ≤ 1000000000000) : IntKind.wrap IntKind.i64 (A + Int.ofNat 1) = A + 1 := wrap64 (by show _ ≤ A + 1; omega) (by show A + 1 ≤ _; omega)
theorem B132_1_0 (A : Int) (hA : 0 ≤ A) : loop B132_1 (Int.ofNat 0, Int.ofNat 0, Int.ofNat 0, Int.ofNat 0, (lit []), false, false, A, Int.ofNat 0, Int.ofNat 0, ()) = some (bumpS (bump0 A)) := by
  unfold bump0
  by_cases h : A < 999999
  · rw [if_pos h]
    refine loop_end ?_
    rw [B132_1_eq]
    simp only [show decide (Int.ofNat 0 ≥ Int.ofNat 0) = true from rfl, show (Int.ofNat 0 == Int.ofNat 0) = true from rfl, cond_true, cond_false, lt_top h, up_one hA (show A ≤ 1000000000000 by omega)]
    rfl
  · rw [if_neg h]
    refine loop_step (q := (Int.negSucc 0, Int.ofNat 0, Int.ofNat 0, Int.ofNat 0, (lit []), false, false, Int.ofNat 0, Int.ofNat 0, Int.ofNat 0, ())) ?_ (loop_end ?_)
    · rw [B132_1_eq]
      simp only [show decide (Int.ofNat 0 ≥ Int.ofNat 0) = true from rfl, show (Int.ofNat 0 == Int.ofNat 0) = true from rfl, cond_true, cond_false, nlt_top h]
      rfl
    · rw [B132_1_eq]
      rfl
theorem B132_1_1 (A B : Int) (hA : 0 ≤ A) (hB : 0 ≤ B) : loop B132_1 (Int.ofNat 1, Int.ofNat 0, Int.ofNat 0, Int.ofNat 0, (lit []), false, false, A, B, Int.ofNat 0, ()) = some (bumpS (bump1 A B)) := by
  unfold bump1
  by_cases h : B < 999999
  · rw [if_pos h]
    refine loop_end ?_
    rw [B132_1_eq]
    simp only [show decide (Int.ofNat 1 ≥ Int.ofNat 0) = true from rfl, show (Int.ofNat 1 == Int.ofNat 0) = false from rfl, show (Int.ofNat 1 == Int.ofNat 1) = true from rfl, cond_true, cond_false, lt_top h, up_one hB (show B ≤ 1000000000000 by omega)]
    rfl
  · rw [if_neg h]
    refine loop_step (q := (Int.ofNat 0, Int.ofNat 0, Int.ofNat 0, Int.ofNat 0, (lit []), false, false, A, Int.ofNat 0, Int.ofNat 0, ())) ?_ (B132_1_0 A hA)
    rw [B132_1_eq]
    simp only [show decide (Int.ofNat 1 ≥ Int.ofNat 0) = true from rfl, show (Int.ofNat 1 == Int.ofNat 0) = false from rfl, show (Int.ofNat 1 == Int.ofNat 1) = true from rfl, cond_true, cond_false, nlt_top h]
    rfl
theorem B132_1_2 (A B C : Int) (hA : 0 ≤ A) (hB : 0 ≤ B) (hC : 0 ≤ C) : loop B132_1 (Int.ofNat 2, Int.ofNat 0, Int.ofNat 0, Int.ofNat 0, (lit []), false, false, A, B, C, ()) = some (bumpS (bump2 A B C)) := by
  unfold bump2
  by_cases h : C < 999999
  · rw [if_pos h]
    refine loop_end ?_
    rw [B132_1_eq]
    simp only [show decide (Int.ofNat 2 ≥ Int.ofNat 0) = true from rfl, show (Int.ofNat 2 == Int.ofNat 0) = false from rfl, show (Int.ofNat 2 == Int.ofNat 1) = false from rfl, show (Int.ofNat 2 == Int.ofNat 2) = true from rfl, cond_true, cond_false, lt_top h, up_one hC (show C ≤ 1000000000000 by omega)]
    rfl
  · rw [if_neg h]
    refine loop_step (q := (Int.ofNat 1, Int.ofNat 0, Int.ofNat 0, Int.ofNat 0, (lit []), false, false, A, B, Int.ofNat 0, ())) ?_ (B132_1_1 A B hA hB)
    rw [B132_1_eq]
    simp only [show decide (Int.ofNat 2 ≥ Int.ofNat 0) = true from rfl, show (Int.ofNat 2 == Int.ofNat 0) = false from rfl, show (Int.ofNat 2 == Int.ofNat 1) = false from rfl, show (Int.ofNat 2 == Int.ofNat 2) = true from rfl, cond_true, cond_false, nlt_top h]
    rfl
theorem B132_0_0 (A B C : Int) : loop B132_0 (Int.ofNat 0, Int.ofNat 1, Int.ofNat 0, Int.ofNat 0, Int.ofNat 0, (lit []), false, false, A, B, C, ()) = some (Int.ofNat 0, Int.ofNat 0, Int.ofNat 0, Int.ofNat 0, (lit []), false, false, A, Int.ofNat 0, Int.ofNat 0, ()) := by
  refine loop_step (q := (Int.ofNat 0, Int.ofNat 2, Int.ofNat 0, Int.ofNat 0, Int.ofNat 0, (lit []), false, false, A, Int.ofNat 0, C, ())) (by rw [B132_0_eq]; rfl) ?_
  refine loop_step (q := (Int.ofNat 0, Int.ofNat 3, Int.ofNat 0, Int.ofNat 0, Int.ofNat 0, (lit []), false, false, A, Int.ofNat 0, Int.ofNat 0, ())) (by rw [B132_0_eq]; rfl) ?_
  exact loop_end (by rw [B132_0_eq]; rfl)
theorem B132_0_1 (A B C : Int) : loop B132_0 (Int.ofNat 1, Int.ofNat 2, Int.ofNat 0, Int.ofNat 0, Int.ofNat 0, (lit []), false, false, A, B, C, ()) = some (Int.ofNat 1, Int.ofNat 0, Int.ofNat 0, Int.ofNat 0, (lit []), false, false, A, B, Int.ofNat 0, ()) := by
  refine loop_step (q := (Int.ofNat 1, Int.ofNat 3, Int.ofNat 0, Int.ofNat 0, Int.ofNat 0, (lit []), false, false, A, B, Int.ofNat 0, ())) (by rw [B132_0_eq]; rfl) ?_
  exact loop_end (by rw [B132_0_eq]; rfl)
theorem B132_0_2 (A B C : Int) : loop B132_0 (Int.ofNat 2, Int.ofNat 3, Int.ofNat 0, Int.ofNat 0, Int.ofNat 0, (lit []), false, false, A, B, C, ()) = some (Int.ofNat 2, Int.ofNat 0, Int.ofNat 0, Int.ofNat 0, (lit []), false, false, A, B, C, ()) := by
  exact loop_end (by rw [B132_0_eq]; rfl)
theorem F132_is (k : Nat) (hk : k < 3) (A B C : Int) (p : ByteArray) (hA : 0 ≤ A) (hB : 0 ≤ B) (hC : 0 ≤ C) : F132 (A, B, C, p, Int.ofNat k, ()) = some (bumpR (bumpV k A B C)) := by
  rw [F132_eq]
  match k, hk with
  | 0, _ =>
    have h0 : loop B132_0 (Int.ofNat 0, IntKind.wrap IntKind.i64 (Int.ofNat 0 + Int.ofNat 1), Int.ofNat 0, Int.ofNat 0, Int.ofNat 0, (lit []), false, false, A, B, C, ()) = _ := B132_0_0 A B C
    rw [h0, obs, B132_1_0 A hA, obs]
    show _ = some (bumpR (bump0 A))
    cases bump0 A <;> rfl
  | 1, _ =>
    have h0 : loop B132_0 (Int.ofNat 1, IntKind.wrap IntKind.i64 (Int.ofNat 1 + Int.ofNat 1), Int.ofNat 0, Int.ofNat 0, Int.ofNat 0, (lit []), false, false, A, B, C, ()) = _ := B132_0_1 A B C
    rw [h0, obs, B132_1_1 A B hA hB, obs]
    show _ = some (bumpR (bump1 A B))
    cases bump1 A B <;> rfl
  | 2, _ =>
    have h0 : loop B132_0 (Int.ofNat 2, IntKind.wrap IntKind.i64 (Int.ofNat 2 + Int.ofNat 1), Int.ofNat 0, Int.ofNat 0, Int.ofNat 0, (lit []), false, false, A, B, C, ()) = _ := B132_0_2 A B C
    rw [h0, obs, B132_1_2 A B C hA hB hC, obs]
    show _ = some (bumpR (bump2 A B C))
    cases bump2 A B C <;> rfl
def caretK (A B : Int) : Nat := if 0 < A then 0 else if 0 < B then 1 else 2
theorem F136_is (A B C : Int) (p : ByteArray) (hA : 0 ≤ A) (hB : 0 ≤ B) (hC : 0 ≤ C) : F136 (A, B, C, p, ()) = some (bumpR (bumpV (caretK A B) A B C)) := by
  rw [F136_eq]
  unfold caretK
  by_cases h1 : 0 < A
  · rw [show decide (A > Int.ofNat 0) = true from decide_eq_true h1, cond_true, F132_is 0 (by omega) A B C p hA hB hC, obs, if_pos h1]
  · rw [show decide (A > Int.ofNat 0) = false from decide_eq_false h1, cond_false, if_neg h1]
    by_cases h2 : 0 < B
    · rw [show decide (B > Int.ofNat 0) = true from decide_eq_true h2, cond_true, F132_is 1 (by omega) A B C p hA hB hC, obs, if_pos h2]
    · rw [show decide (B > Int.ofNat 0) = false from decide_eq_false h2, cond_false, F132_is 2 (by omega) A B C p hA hB hC, obs, if_neg h2]
/-! the document's -/
theorem cT {α : Type} (a b : α) : cond true a b = a := by
  have h : ∀ c : Bool, c = true → cond c a b = a := by
    intro c hc
    subst hc
    rfl
  exact h _ rfl
theorem cF {α : Type} (a b : α) : cond false a b = b := by
  have h : ∀ c : Bool, c = false → cond c a b = b := by
    intro c hc
    subst hc
    rfl
  exact h _ rfl
theorem sL {α β γ : Type} (f : α → γ) (g : β → γ) (a : α) : Sum.elim f g (.inl a) = f a := by
  have h : ∀ c : α ⊕ β, c = .inl a → Sum.elim f g c = f a := by
    intro c hc
    subst hc
    rfl
  exact h _ rfl
theorem sR {α β γ : Type} (f : α → γ) (g : β → γ) (b : β) : Sum.elim f g (.inr b) = g b := by
  have h : ∀ c : α ⊕ β, c = .inr b → Sum.elim f g c = g b := by
    intro c hc
    subst hc
    rfl
  exact h _ rfl
end Go.Vx.Z
/-! What a mark and a version say. -/
namespace Go.Vx.Z
open Go Go.Vx
set_option linter.unusedVariables false
set_option maxRecDepth 100000
def btw (p q : Pt) : List Span := (Pc.nf [(p, q)]).map spanP
def notS (L : List Span) : List Span := (Pc.nf (Pc.gaps pBeg (L.map kOf) pEnd)).map spanP
def orS (a b : List Span) : List Span := (Pc.nf ((a ++ b).map kOf)).map spanP
def andS (a b : List Span) : List Span := (Pc.nf (Pc.meets (a.map kOf) (b.map kOf))).map spanP
def allS : List Span := [(0, 0, 0, lit [48], 0, 0, 0, lit [], false, false, true, ())]
def vOf (v : Nat × Nat × Nat × List UInt8) : Ver := ((v.1 : Int), (v.2.1 : Int), (v.2.2.1 : Int), lit v.2.2.2, ())
def bumpPt (o : Option Num3) : Pt := match o with
  | some t => ptV (t.1, t.2.1, t.2.2, lit [48], ())
  | none => pEnd
def mkP (p q : Ver) (fb fe tb te : Bool) : Piece := (p.1, p.2.1, p.2.2.1, p.2.2.2.1, fb, fe, q.1, q.2.1, q.2.2.1, q.2.2.2.1, tb, te, ())
theorem F81_is (p q : Ver) (fb fe tb te : Bool) (h : okP (mkP p q fb fe tb te)) : F81 (p.1, p.2.1, p.2.2.1, p.2.2.2.1, fb, fe, q.1, q.2.1, q.2.2.1, q.2.2.2.1, tb, te, ()) = some (btw (ptOf p fb fe) (ptOf q tb te), ()) := by
  rw [F81_eq]
  obtain ⟨r, hr⟩ := F41_is [mkP p q fb fe tb te] (by intro x hx; rw [List.mem_singleton.1 hx]; exact h) (by show 1 ≤ big; decide)
  have h2 : F41 ([(p.1, p.2.1, p.2.2.1, p.2.2.2.1, fb, fe, q.1, q.2.1, q.2.2.1, q.2.2.2.1, tb, te, ())], ()) = _ := hr
  rw [h2, obs]
  rfl
theorem okP_ver {p q : Ver} (fb fe tb : Bool) (hp : okV p = true) (hq : okV q = true) : okP (mkP p q fb fe tb false) := by
  refine ⟨?_, fun h => ?_⟩
  · show (okV p && okV q) = true
    rw [hp, hq]; rfl
  · cases h
theorem okP_end {p : Ver} (fb fe : Bool) (hp : okV p = true) : okP (mkP p v0 fb fe false true) := by
  refine ⟨?_, fun _ => ⟨rfl, rfl⟩⟩
  show (okV p && okV v0) = true
  rw [hp]; rfl
def Pair (p q : Pt) : Prop := ∃ x : Piece, okP x ∧ x.fp = p ∧ x.tp = q
theorem pair_ver {p q : Ver} (fb tb : Bool) (hp : okV p = true) (hq : okV q = true) : Pair (ptOf p fb false) (ptOf q tb false) := ⟨mkP p q fb false tb false, okP_ver fb false tb hp hq, rfl, rfl⟩
theorem pair_end {p : Ver} (fb : Bool) (hp : okV p = true) : Pair (ptOf p fb false) pEnd := ⟨mkP p v0 fb false false true, okP_end fb false hp, rfl, rfl⟩
theorem btw_says {p q : Pt} (h : Pair p q) : Nrm (btw p q) ∧ (∀ x, den (btw p q) x ↔ p ≤ x ∧ x < q) ∧ (btw p q).length ≤ 1 := by
  obtain ⟨y, h1, rfl, rfl⟩ := h
  have h2 := nf_says [y] (by intro x hx; rw [List.mem_singleton.1 hx]; exact h1)
  have e : (Pc.nf ([y].map Piece.pp)).map spanP = btw y.fp y.tp := rfl
  rw [e] at h2
  refine ⟨h2.1, fun x => ?_, h2.2.2⟩
  rw [h2.2.1]
  show Pc.mem [(y.fp, y.tp)] x ↔ _
  simp [Pc.mem]
theorem btw_rng {p q : Pt} (h : Pair p q) (hb : pBeg ≤ p) : Rng (btw p q) := by
  obtain ⟨h1, h2, _⟩ := btw_says h
  exact den_rng h1 fun x hx => by
    have := ((h2 x).1 hx).1
    exact Std.IsPreorder.le_trans _ _ _ hb this
def vOk (v : Nat × Nat × Nat × List UInt8) : Prop := v.1 ≤ 999999 ∧ v.2.1 ≤ 999999 ∧ v.2.2.1 ≤ 999999 ∧ v.2.2.2.length ≤ 40
theorem inN_le {n : Nat} (h : inN (n : Int) = true) : n ≤ 999999 := by
  unfold inN at h
  rw [Bool.and_eq_true, decide_eq_true_eq, decide_eq_true_eq] at h
  omega
theorem verP_ok {l : List UInt8} {v : Nat × Nat × Nat × List UInt8} (h : verP l = some v) : vOk v ∧ ∃ r, l = 118 :: r ∧ Form r v := by
  cases l with
  | nil => cases h
  | cons x r =>
    have h' : (if x = 118 then (scanV r).bind (fun v => if rightB v.1 v.2.1 v.2.2.1 v.2.2.2 = true then some v else none) else none) = some v := h
    split at h'
    · rename_i hx
      rw [Option.bind_eq_some_iff] at h'
      obtain ⟨w, h1, h2⟩ := h'
      split at h2
      · rename_i hr
        injection h2 with h2
        subst h2
        unfold rightB preOk at hr
        simp only [Bool.and_eq_true] at hr
        refine ⟨⟨inN_le hr.1.1.1, inN_le hr.1.1.2, inN_le hr.1.2, by simpa using hr.2.1⟩, r, by rw [hx], scanV_iff.1 h1⟩
      · cases h2
    · cases h'
theorem vOk_V {v : Nat × Nat × Nat × List UInt8} (h : vOk v) : okV (vOf v) = true := decide_eq_true (by show v.2.2.2.length ≤ 1099511627000; have := h.2.2.2; omega)
theorem vOk_beg {v : Nat × Nat × Nat × List UInt8} (b : Bool) : pBeg ≤ ptOf (vOf v) b false := pBeg_le b (least_le (Int.natCast_nonneg _) (Int.natCast_nonneg _) (Int.natCast_nonneg _))
def opS (op : List UInt8) (v : Ver) : Option (List Span) :=
  if op = [] ∨ op = [61] then some (btw (ptV v) (ptOf v true false))
  else if op = [33, 61] then some (notS (btw (ptV v) (ptOf v true false)))
  else if op = [62] then some (btw (ptOf v true false) pEnd)
  else if op = [62, 61] then some (btw (ptV v) pEnd)
  else if op = [60] then some (btw pBeg (ptV v))
  else if op = [60, 61] then some (btw pBeg (ptOf v true false))
  else if op = [94] then some (btw (ptV v) (bumpPt (bumpV (caretK v.1 v.2.1) v.1 v.2.1 v.2.2.1)))
  else if op = [126] then some (btw (ptV v) (bumpPt (bumpV 1 v.1 v.2.1 v.2.2.1)))
  else none
theorem pair_bump {v : Ver} (hv : okV v = true) (o : Option Num3) : Pair (ptV v) (bumpPt o) := by
  cases o with
  | none => exact pair_end false hv
  | some t => exact pair_ver false false hv (q := (t.1, t.2.1, t.2.2, lit [48], ())) (by show decide ((lit [48]).size ≤ 1099511627000) = true; decide)
theorem not_btw {p q : Pt} (h : Pair p q) (hb : pBeg ≤ p) : Nrm (notS (btw p q)) ∧ Rng (notS (btw p q)) ∧ (∀ x, den (notS (btw p q)) x ↔ pBeg ≤ x ∧ x < pEnd ∧ ¬ den (btw p q) x) ∧ (notS (btw p q)).length ≤ 2 := by
  obtain ⟨h1, h2, h3⟩ := btw_says h
  obtain ⟨g1, g2, g3⟩ := gaps_says (btw p q) h1 (btw_rng h hb)
  exact ⟨g1, den_rng g1 fun x hx => ((g2 x).1 hx).1, g2, by show ((Pc.nf _).map spanP).length ≤ 2; omega⟩
theorem opS_ok {op : List UInt8} {v : Ver} {L : List Span} (hv : okV v = true) (hb : ∀ b, pBeg ≤ ptOf v b false) (h : opS op v = some L) : Nrm L ∧ Rng L ∧ L.length ≤ 2 := by
  have h1 : ∀ {p q : Pt}, Pair p q → pBeg ≤ p → Nrm (btw p q) ∧ Rng (btw p q) ∧ (btw p q).length ≤ 2 := fun hp hq => ⟨(btw_says hp).1, btw_rng hp hq, Nat.le_trans (btw_says hp).2.2 (by omega)⟩
  have hl : okV least = true := by decide
  unfold opS at h
  split at h
  · injection h with h; subst h; exact h1 (pair_ver false true hv hv) (hb false)
  split at h
  · injection h with h; subst h
    obtain ⟨g1, g2, _, g4⟩ := not_btw (pair_ver false true hv hv) (hb false)
    exact ⟨g1, g2, g4⟩
  split at h
  · injection h with h; subst h; exact h1 (pair_end true hv) (hb true)
  split at h
  · injection h with h; subst h; exact h1 (pair_end false hv) (hb false)
  split at h
  · injection h with h; subst h; exact h1 (pair_ver false false hl hv) (Std.IsPreorder.le_refl _)
  split at h
  · injection h with h; subst h; exact h1 (pair_ver false true hl hv) (Std.IsPreorder.le_refl _)
  split at h
  · injection h with h; subst h; exact h1 (pair_bump hv _) (hb false)
  split at h
  · injection h with h; subst h; exact h1 (pair_bump hv _) (hb false)
  · cases h
theorem F18_btw {p q : Pt} (h : Pair p q) : F18 (btw p q, ()) = some (notS (btw p q), ()) := by
  obtain ⟨h1, h2, h3⟩ := btw_says h
  exact F18_is (btw p q) (nrm_ok h1) (by show _ < 1099511627776; omega)
abbrev opOf (w : List UInt8) : List UInt8 := w.takeWhile fun x => !(x == 118)
abbrev verOf (w : List UInt8) : List UInt8 := w.dropWhile fun x => !(x == 118)
def markS (w : List UInt8) : Option (List Span) := (verP (verOf w)).bind fun v => opS (opOf w) (vOf v)
def optR (o : Option (List Span)) : List Span × Bool × Unit := match o with
  | some L => (L, true, ())
  | none => ([], false, ())
theorem bumpR_pt (v : Ver) (hv : okV v = true) (o : Option Num3) (n : Int × Int × Int × ByteArray × Bool × Bool × Unit) (hn : n = bumpR o) : F81 (v.1, v.2.1, v.2.2.1, v.2.2.2.1, false, false, n.1, n.2.1, n.2.2.1, n.2.2.2.1, n.2.2.2.2.1, n.2.2.2.2.2.1, ()) = some (btw (ptV v) (bumpPt o), ()) := by
  subst hn
  cases o with
  | none => exact F81_is v v0 false false false true (okP_end false false hv)
  | some t => exact F81_is v (t.1, t.2.1, t.2.2, lit [48], ()) false false false false (okP_ver false false false hv (by show decide ((lit [48]).size ≤ 1099511627000) = true; decide))
theorem beq_l {a b : List UInt8} : (a == b) = decide (a = b) := by rw [Bool.eq_iff_iff, beq_iff_eq, decide_eq_true_eq]
theorem F99_is (s : ByteArray) (hs : s.size ≤ 1099511627000) : F99 (s, ()) = some (optR (markS (bs s))) := by
  have hl := bs_size s
  rw [F99_eq, F133_eq, F161_eq, obs, xIndexByte_eq, obs]
  simp only
  have h118 : (Int.ofNat 118).toNat.toUInt8 = 118 := rfl
  rw [h118, idx_tw]
  have happ := List.takeWhile_append_dropWhile (p := fun x => !(x == (118 : UInt8))) (l := bs s)
  unfold markS
  by_cases hd : verOf (bs s) = []
  · have hd' : (bs s).dropWhile (fun x => !(x == (118 : UInt8))) = [] := hd
    rw [if_pos hd', hd]
    rfl
  · have hd' : ¬ (bs s).dropWhile (fun x => !(x == (118 : UInt8))) = [] := hd
    rw [if_neg hd']
    have hk : (opOf (bs s)).length < (bs s).length := by
      have h1 := congrArg List.length happ
      rw [List.length_append] at h1
      have h2 := List.length_pos_iff.2 hd'
      show ((bs s).takeWhile _).length < _
      omega
    have h1 : opOf (bs s) = (bs s).take (opOf (bs s)).length := tw_take _ _
    have h2 : verOf (bs s) = (bs s).drop (opOf (bs s)).length := dw_drop _ _
    rw [show ((bs s).takeWhile fun x => !(x == (118 : UInt8))).length = (opOf (bs s)).length from rfl]
    generalize opOf (bs s) = f at *
    generalize verOf (bs s) = d at *
    have e0 : decide ((f.length : Int) < Int.ofNat 0) = false := by simp
    have e2 : (decide (Int.ofNat 0 ≤ (f.length : Int)) && decide ((f.length : Int) ≤ Int.ofNat s.size)) = true := by
      rw [ge_zero, Bool.true_and, decide_eq_true_eq]; show (f.length : Int) ≤ (s.size : Int); omega
    have e3 : (decide (Int.ofNat 0 ≤ (f.length : Int)) && (decide ((f.length : Int) ≤ Int.ofNat s.size) && decide (Int.ofNat s.size ≤ Int.ofNat s.size))) = true := by
      rw [ge_zero, Bool.true_and, Bool.and_eq_true, decide_eq_true_eq, decide_eq_true_eq]
      exact ⟨by show (f.length : Int) ≤ (s.size : Int); omega, Int.le_refl _⟩
    have i1 : bl (s.extract 0 (Int.toNat (f.length : Int))) = f := by rw [bs_toList, bs_extract, Int.toNat_natCast, List.drop_zero]; exact h1.symm
    have i2 : s.extract (Int.toNat (f.length : Int)) (Int.toNat (Int.ofNat s.size)) = lit d := bs_inj (by
      rw [bs_extract, Int.toNat_natCast, bs_lit]
      show ((bs s).take s.size).drop f.length = _
      rw [hl, List.take_length, h2])
    have hds : (lit d).size ≤ 1099511627000 := by
      show d.length ≤ _
      rw [h2, List.length_drop]; omega
    simp only [e0, e2, e3, cT, cF, i1, i2]
    rw [F80_is _ hds, obs, bs_lit]
    unfold verR
    cases hv : verP d with
    | none => rfl
    | some v =>
      obtain ⟨hok, _⟩ := verP_ok hv
      have hV := vOk_V hok
      simp only [Bool.not_true, cF, Option.bind_some]
      have k1 := F81_is (vOf v) (vOf v) false false true false (okP_ver false false true hV hV)
      have k2 : ∀ b, F81 ((vOf v).1, (vOf v).2.1, (vOf v).2.2.1, (vOf v).2.2.2.1, b, false, v0.1, v0.2.1, v0.2.2.1, v0.2.2.2.1, false, true, ()) = some (btw (ptOf (vOf v) b false) pEnd, ()) := fun b => F81_is (vOf v) v0 b false false true (okP_end b false hV)
      have k3 : ∀ b, F81 (least.1, least.2.1, least.2.2.1, least.2.2.2.1, false, false, (vOf v).1, (vOf v).2.1, (vOf v).2.2.1, (vOf v).2.2.2.1, b, false, ()) = some (btw pBeg (ptOf (vOf v) b false), ()) := fun b => F81_is least (vOf v) false false b false (okP_ver false false b (by decide) hV)
      have n0 : (0 : Int) ≤ (v.1 : Int) := Int.natCast_nonneg _
      have n1 : (0 : Int) ≤ (v.2.1 : Int) := Int.natCast_nonneg _
      have n2 : (0 : Int) ≤ (v.2.2.1 : Int) := Int.natCast_nonneg _
      have k4 := bumpR_pt (vOf v) hV (bumpV (caretK (v.1 : Int) (v.2.1 : Int)) v.1 v.2.1 v.2.2.1) _ rfl
      have k5 := bumpR_pt (vOf v) hV (bumpV 1 (v.1 : Int) v.2.1 v.2.2.1) _ rfl
      have j4 := F136_is v.1 v.2.1 v.2.2.1 (lit v.2.2.2) n0 n1 n2
      have j5 : F132 ((v.1 : Int), (v.2.1 : Int), (v.2.2.1 : Int), lit v.2.2.2, Int.ofNat 1, ()) = _ := F132_is 1 (by omega) v.1 v.2.1 v.2.2.1 (lit v.2.2.2) n0 n1 n2
      have nb := F18_btw (pair_ver false true hV hV)
      unfold opS
      simp only [beq_l]
      by_cases c1 : f = []
      · subst c1
        simp only [decide_true, cT, true_or, if_true]
        erw [k1]; rfl
      rw [decide_eq_false c1]
      simp only [cF]
      by_cases c2 : f = [61]
      · subst c2
        simp only [decide_true, cT, or_true, if_true]
        erw [k1]; rfl
      rw [decide_eq_false c2, if_neg (fun h => h.elim c1 c2)]
      simp only [cF]
      by_cases c3 : f = [33, 61]
      · rw [decide_eq_true c3, if_pos c3]
        simp only [cT]
        erw [k1, obs, nb]; rfl
      rw [decide_eq_false c3, if_neg c3]
      simp only [cF]
      by_cases c4 : f = [62]
      · rw [decide_eq_true c4, if_pos c4]
        simp only [cT]
        rw [F134_eq, obs]
        erw [k2 true]; rfl
      rw [decide_eq_false c4, if_neg c4]
      simp only [cF]
      by_cases c5 : f = [62, 61]
      · rw [decide_eq_true c5, if_pos c5]
        simp only [cT]
        rw [F134_eq, obs]
        erw [k2 false]; rfl
      rw [decide_eq_false c5, if_neg c5]
      simp only [cF]
      by_cases c6 : f = [60]
      · rw [decide_eq_true c6, if_pos c6]
        simp only [cT]
        rw [F135_eq, F43_eq, obs, obs]
        erw [k3 false]; rfl
      rw [decide_eq_false c6, if_neg c6]
      simp only [cF]
      by_cases c7 : f = [60, 61]
      · rw [decide_eq_true c7, if_pos c7]
        simp only [cT]
        rw [F135_eq, F43_eq, obs, obs]
        erw [k3 true]; rfl
      rw [decide_eq_false c7, if_neg c7]
      simp only [cF]
      by_cases c8 : f = [94]
      · rw [decide_eq_true c8, if_pos c8]
        simp only [cT]
        rw [j4, obs]
        erw [k4]; rfl
      rw [decide_eq_false c8, if_neg c8]
      simp only [cF]
      by_cases c9 : f = [126]
      · rw [decide_eq_true c9, if_pos c9]
        simp only [cT]
        rw [j5, obs]
        erw [k5]; rfl
      rw [decide_eq_false c9, if_neg c9]
      rfl
end Go.Vx.Z
/-! Wild words. -/
namespace Go.Vx.Z
open Go Go.Vx
set_option linter.unusedVariables false
set_option maxRecDepth 100000
def dotX : List UInt8 := [46, 120]
def wildL (ws : List (List UInt8)) : Option (Nat × Option Nat) := match ws with
  | [a] => (numOf a).bind fun n => if n ≤ 999999 then some (n, none) else none
  | [a, b] => (numOf a).bind fun n => (numOf b).bind fun m => if n ≤ 999999 ∧ m ≤ 999999 then some (n, some m) else none
  | _ => none
theorem wildL_one (a : List UInt8) : wildL [a] = (numOf a).bind fun n => if n ≤ 999999 then some (n, none) else none := rfl
theorem wildL_two (a b : List UInt8) : wildL [a, b] = (numOf a).bind fun n => (numOf b).bind fun m => if n ≤ 999999 ∧ m ≤ 999999 then some (n, some m) else none := rfl
def wildOf (w : List UInt8) : Option (Nat × Option Nat) := if w.head? = some 118 ∧ 2 ≤ w.length ∧ w.drop (w.length - 2) = dotX then wildL (splitB 46 ((w.take (w.length - 2)).drop 1)) else none
def wildP (t : Nat × Option Nat) : List Span := match t.2 with
  | none => btw (ptV ((t.1 : Int), 0, 0, lit [48], ())) (bumpPt (bumpV 0 t.1 0 0))
  | some m => btw (ptV ((t.1 : Int), (m : Int), 0, lit [48], ())) (bumpPt (bumpV 1 t.1 m 0))
def wildS (w : List UInt8) : Option (List Span) := (wildOf w).map wildP
theorem F173_is (s : ByteArray) (hs : s.size ≤ 1099511627776) : F173 (s, (lit dotX), ()) = some (decide (2 ≤ s.size ∧ (bs s).drop (s.size - 2) = dotX), ()) := by
  have hl := bs_size s
  rw [F173_eq]
  have e0 : ByteArray.size (lit dotX) = 2 := rfl
  rw [e0]
  by_cases h : 2 ≤ s.size
  · have hw : IntKind.wrap IntKind.i64 (Int.ofNat s.size - Int.ofNat 2) = ((s.size - 2 : Nat) : Int) := by
      show IntKind.wrap IntKind.i64 ((s.size : Int) - 2) = _
      rw [wrap64 (by omega) (by omega)]; omega
    rw [hw, show decide (Int.ofNat s.size ≥ Int.ofNat 2) = true from decide_eq_true (by show (2 : Int) ≤ s.size; omega), cT]
    have e3 : (decide (Int.ofNat 0 ≤ ((s.size - 2 : Nat) : Int)) && (decide (((s.size - 2 : Nat) : Int) ≤ Int.ofNat s.size) && decide (Int.ofNat s.size ≤ Int.ofNat s.size))) = true := by
      rw [ge_zero, Bool.true_and, Bool.and_eq_true, decide_eq_true_eq, decide_eq_true_eq]
      exact ⟨by show _ ≤ (s.size : Int); omega, Int.le_refl _⟩
    rw [e3, cT]
    have i2 : bl (s.extract (Int.toNat ((s.size - 2 : Nat) : Int)) (Int.toNat (Int.ofNat s.size))) = (bs s).drop (s.size - 2) := by
      rw [bs_toList, bs_extract, Int.toNat_natCast]
      show ((bs s).take s.size).drop (s.size - 2) = _
      rw [hl, List.take_length]
    rw [i2, bs_toList, bs_lit, beq_l]
    refine congrArg (fun z => some (z, ())) ?_
    rw [decide_eq_decide]
    exact ⟨fun h2 => ⟨h, h2⟩, fun h2 => h2.2⟩
  · rw [show decide (Int.ofNat s.size ≥ Int.ofNat 2) = false from decide_eq_false (by show ¬ (2 : Int) ≤ s.size; omega), cF, decide_eq_false (fun h2 => h h2.1)]
theorem F131_is (s : ByteArray) (hs : s.size ≤ 1099511627776) : F131 (s, (lit dotX), ()) = some (if 2 ≤ s.size ∧ (bs s).drop (s.size - 2) = dotX then lit ((bs s).take (s.size - 2)) else s, decide (2 ≤ s.size ∧ (bs s).drop (s.size - 2) = dotX), ()) := by
  rw [F131_eq, F160_eq, F173_is s hs, obs]
  by_cases h : 2 ≤ s.size ∧ (bs s).drop (s.size - 2) = dotX
  · rw [if_pos h, decide_eq_true h]
    have hw : IntKind.wrap IntKind.i64 (Int.ofNat s.size - Int.ofNat (ByteArray.size (lit dotX))) = ((s.size - 2 : Nat) : Int) := by
      show IntKind.wrap IntKind.i64 ((s.size : Int) - 2) = _
      have := h.1
      rw [wrap64 (by omega) (by omega)]; omega
    simp only [Bool.not_true, cF, hw]
    have e3 : (decide (Int.ofNat 0 ≤ ((s.size - 2 : Nat) : Int)) && decide (((s.size - 2 : Nat) : Int) ≤ Int.ofNat s.size)) = true := by
      rw [ge_zero, Bool.true_and, decide_eq_true_eq]
      show _ ≤ (s.size : Int); omega
    rw [e3, cT, obs]
    have i1 : s.extract 0 (Int.toNat ((s.size - 2 : Nat) : Int)) = lit ((bs s).take (s.size - 2)) := bs_inj (by rw [bs_extract, Int.toNat_natCast, List.drop_zero, bs_lit])
    rw [i1]
  · rw [if_neg h, decide_eq_false h]
    rfl
theorem wild_btw (n m : Nat) (k : Nat) (hk : k < 3) (M K : Int) (hM : M = (m : Int)) (hK : K = Int.ofNat k) : Option.bind (F132 ((n : Int), M, Int.ofNat 0, (lit [48]), K, ())) (fun r => Option.bind (F81 ((n : Int), M, Int.ofNat 0, (lit [48]), false, false, r.1, r.2.1, r.2.2.1, r.2.2.2.1, r.2.2.2.2.1, r.2.2.2.2.2.1, ())) fun r => some (r.1, true, ())) = some (btw (ptV ((n : Int), (m : Int), 0, lit [48], ())) (bumpPt (bumpV k n m 0)), true, ()) := by
  subst hM
  subst hK
  have h1 : F132 ((n : Int), (m : Int), Int.ofNat 0, (lit [48]), Int.ofNat k, ()) = some (bumpR (bumpV k n m 0)) := F132_is k hk n m 0 (lit [48]) (Int.natCast_nonneg _) (Int.natCast_nonneg _) (Int.le_refl _)
  have h2 := bumpR_pt ((n : Int), (m : Int), 0, lit [48], ()) (by show decide ((lit [48]).size ≤ 1099511627000) = true; decide) (bumpV k n m 0) _ rfl
  rw [h1, obs]
  erw [h2]
  rfl
theorem gt_top (n : Nat) : decide (((n : Nat) : Int) > Int.ofNat 999999) = !decide (n ≤ 999999) := by
  rw [← decide_not, decide_eq_decide]
  show (999999 : Int) < (n : Int) ↔ _
  omega
theorem B98_one (x : ByteArray) : loop B98_0 ([x], [x], Int.ofNat 1, Int.ofNat 0, Int.ofNat 0, Int.ofNat 0, ()) = some (match wildL [bs x] with
    | some (n, _) => .inr ([x], (n : Int), Int.ofNat 0, ())
    | none => .inl (false, ())) := by
  have h1 : B98_0 ([x], [x], Int.ofNat 1, Int.ofNat 0, Int.ofNat 0, Int.ofNat 0, ()) = some (match wildL [bs x] with
    | some (n, _) => .inl ([x], [x], Int.ofNat 1, Int.ofNat 1, (n : Int), Int.ofNat 0, ())
    | none => .inr (.inl (false, ()))) := by
    rw [B98_0_eq]
    simp only [show decide (Int.ofNat 0 < Int.ofNat 1) = true from rfl, show (Int.ofNat 0 == Int.ofNat 0) = true from rfl, show decide (Int.ofNat 0 ≤ Int.ofNat 0) = true from rfl, cT, show [x][Int.toNat (Int.ofNat 0)]? = some x from rfl, obs, F103_is]
    rw [wildL_one]
    unfold numR
    cases numOf (bs x) with
    | none => rfl
    | some n =>
      simp only [Bool.not_true, cF, gt_top, Option.bind_some]
      by_cases h : n ≤ 999999
      · rw [decide_eq_true h, if_pos h]; rfl
      · rw [decide_eq_false h, if_neg h]; rfl
  cases hw : wildL [bs x] with
  | none => rw [hw] at h1; exact loop_end h1
  | some t =>
    rw [hw] at h1
    exact loop_step h1 (loop_end (by rw [B98_0_eq]; rfl))
theorem B98_two (x y : ByteArray) : loop B98_0 ([x, y], [x, y], Int.ofNat 2, Int.ofNat 0, Int.ofNat 0, Int.ofNat 0, ()) = some (match wildL [bs x, bs y] with
    | some (n, some m) => .inr ([x, y], (n : Int), (m : Int), ())
    | _ => .inl (false, ())) := by
  rw [wildL_two]
  have h1 : B98_0 ([x, y], [x, y], Int.ofNat 2, Int.ofNat 0, Int.ofNat 0, Int.ofNat 0, ()) = some (match numOf (bs x) with
    | some n => if n ≤ 999999 then .inl ([x, y], [x, y], Int.ofNat 2, Int.ofNat 1, (n : Int), Int.ofNat 0, ()) else .inr (.inl (false, ()))
    | none => .inr (.inl (false, ()))) := by
    rw [B98_0_eq]
    simp only [show decide (Int.ofNat 0 < Int.ofNat 2) = true from rfl, show (Int.ofNat 0 == Int.ofNat 0) = true from rfl, show decide (Int.ofNat 0 ≤ Int.ofNat 0) = true from rfl, cT, show [x, y][Int.toNat (Int.ofNat 0)]? = some x from rfl, obs, F103_is]
    unfold numR
    cases numOf (bs x) with
    | none => rfl
    | some n =>
      simp only [Bool.not_true, cF, gt_top]
      by_cases h : n ≤ 999999
      · rw [decide_eq_true h, if_pos h]; rfl
      · rw [decide_eq_false h, if_neg h]; rfl
  cases hx : numOf (bs x) with
  | none => rw [hx] at h1; exact loop_end h1
  | some n =>
    rw [hx] at h1
    simp only at h1
    by_cases hn : n ≤ 999999
    · rw [if_pos hn] at h1
      refine loop_step h1 ?_
      have h2 : B98_0 ([x, y], [x, y], Int.ofNat 2, Int.ofNat 1, (n : Int), Int.ofNat 0, ()) = some (match numOf (bs y) with
        | some m => if m ≤ 999999 then .inl ([x, y], [x, y], Int.ofNat 2, Int.ofNat 2, (n : Int), (m : Int), ()) else .inr (.inl (false, ()))
        | none => .inr (.inl (false, ()))) := by
        rw [B98_0_eq]
        simp only [show decide (Int.ofNat 1 < Int.ofNat 2) = true from rfl, show (Int.ofNat 1 == Int.ofNat 0) = false from rfl, show (Int.ofNat 1 == Int.ofNat 1) = true from rfl, show decide (Int.ofNat 0 ≤ Int.ofNat 1) = true from rfl, cT, cF, show [x, y][Int.toNat (Int.ofNat 1)]? = some y from rfl, obs, F103_is]
        unfold numR
        cases numOf (bs y) with
        | none => rfl
        | some n =>
          simp only [Bool.not_true, cF, gt_top]
          by_cases h : n ≤ 999999
          · rw [decide_eq_true h, if_pos h]; rfl
          · rw [decide_eq_false h, if_neg h]; rfl
      cases hy : numOf (bs y) with
      | none => rw [hy] at h2; exact loop_end h2
      | some m =>
        rw [hy] at h2
        simp only at h2
        by_cases hm : m ≤ 999999
        · rw [if_pos hm] at h2
          simp only [Option.bind_some, if_pos (show n ≤ 999999 ∧ m ≤ 999999 from ⟨hn, hm⟩)]
          exact loop_step h2 (loop_end (by rw [B98_0_eq]; rfl))
        · rw [if_neg hm] at h2
          simp only [Option.bind_some, if_neg (show ¬ (n ≤ 999999 ∧ m ≤ 999999) from fun h => hm h.2)]
          exact loop_end h2
    · rw [if_neg hn] at h1
      have : ((some n).bind fun n => (numOf (bs y)).bind fun m => if n ≤ 999999 ∧ m ≤ 999999 then some (n, some m) else none) = (none : Option (Nat × Option Nat)) := by
        rw [Option.bind_some]
        cases numOf (bs y) with
        | none => rfl
        | some m => rw [Option.bind_some, if_neg (fun h => hn h.1)]
      rw [this]
      exact loop_end h1
theorem wildL_long {ws : List (List UInt8)} (h : 2 < ws.length) : wildL ws = none := by
  match ws, h with
  | a :: b :: c :: l, _ => rfl
theorem F98_is (s : ByteArray) (hs : s.size ≤ 1099511627000) : F98 (s, ()) = some (optR (wildS (bs s))) := by
  have hl := bs_size s
  rw [F98_eq]
  have h131 : F131 (s, (lit [46, 120]), ()) = _ := F131_is s (by omega)
  rw [h131, obs]
  simp only
  unfold wildS wildOf
  by_cases hx : 2 ≤ s.size ∧ (bs s).drop (s.size - 2) = dotX
  · rw [if_pos hx, decide_eq_true hx]
    have hfs : (lit ((bs s).take (s.size - 2))).size ≤ 1099511627000 := by
      show ((bs s).take (s.size - 2)).length ≤ _
      rw [List.length_take]; omega
    rw [F100_is, obs]
    simp only
    have hfd : bs (lit ((bs s).take (s.size - 2))) = (bs s).take (s.size - 2) := bs_lit _
    rw [hfd]
    by_cases hh : ((bs s).take (s.size - 2)).head? = some 118
    · have hhead : (bs s).head? = some 118 := by
        cases hb : bs s with
        | nil => rw [hb] at hh; simp at hh
        | cons x r =>
          rw [hb] at hh
          cases hn : s.size - 2 with
          | zero => rw [hn] at hh; simp at hh
          | succ k => rw [hn] at hh; simpa using hh
      rw [if_pos hh, decide_eq_true hh, if_pos (show (bs s).head? = some 118 ∧ 2 ≤ (bs s).length ∧ (bs s).drop ((bs s).length - 2) = dotX from ⟨hhead, by omega, by rw [← hl]; exact hx.2⟩)]
      have hbody : bs ((lit ((bs s).take (s.size - 2))).extract 1 (lit ((bs s).take (s.size - 2))).size) = ((bs s).take (s.size - 2)).drop 1 := by
        rw [bs_extract, bs_lit]
        congr 1
        exact List.take_length
      have hbs : ((lit ((bs s).take (s.size - 2))).extract 1 (lit ((bs s).take (s.size - 2))).size).size ≤ 1099511627776 := by
        rw [bs_size, hbody, List.length_drop, List.length_take]; omega
      rw [← hl]
      generalize hu : (lit ((bs s).take (s.size - 2))).extract 1 (lit ((bs s).take (s.size - 2))).size = u at *
      rw [← hbody]
      have h102 : F102 (u, (lit [46]), ()) = some (splitDot u, ()) := F102_dot u hbs
      rw [h102, obs]
      simp only [Bool.not_true, cF]
      unfold splitDot
      rw [List.length_map]
      by_cases h3 : 2 < (splitB 46 (bs u)).length
      · rw [show decide (Int.ofNat (splitB 46 (bs u)).length > Int.ofNat 2) = true from decide_eq_true (by show (2 : Int) < ((splitB 46 (bs u)).length : Int); omega), cT, wildL_long h3]
        rfl
      · rw [show decide (Int.ofNat (splitB 46 (bs u)).length > Int.ofNat 2) = false from decide_eq_false (by show ¬ (2 : Int) < ((splitB 46 (bs u)).length : Int); omega), cF]
        have hne := splitB_ne 46 (bs u)
        generalize splitB 46 (bs u) = ws at *
        match ws, hne, h3 with
        | [a], _, _ =>
          have e : List.map lit [a] = [lit a] := rfl
          have hB := B98_one (lit a)
          rw [bs_lit] at hB
          have hB' : loop B98_0 (List.map lit [a], List.map lit [a], Int.ofNat [a].length, Int.ofNat 0, Int.ofNat 0, Int.ofNat 0, ()) = _ := hB
          rw [hB', obs]
          cases hw : wildL [a] with
          | none => rfl
          | some t =>
            obtain ⟨n, o⟩ := t
            have ho : o = none := by
              rw [wildL_one, Option.bind_eq_some_iff] at hw
              obtain ⟨k, _, h2⟩ := hw
              split at h2
              · injection h2 with h2; injection h2 with _ h2; exact h2.symm
              · cases h2
            subst ho
            have hw := wild_btw n 0 0 (by omega) (Int.ofNat 0) (IntKind.wrap IntKind.i64 (Int.ofNat 1 - Int.ofNat 1)) rfl rfl
            simp only [sR]
            rw [show List.length [lit a] = 1 from rfl]
            rw [hw]
            rfl
        | [a, b], _, _ =>
          have hB := B98_two (lit a) (lit b)
          rw [bs_lit, bs_lit] at hB
          have hB' : loop B98_0 (List.map lit [a, b], List.map lit [a, b], Int.ofNat [a, b].length, Int.ofNat 0, Int.ofNat 0, Int.ofNat 0, ()) = _ := hB
          rw [hB', obs]
          cases hw : wildL [a, b] with
          | none => rfl
          | some t =>
            obtain ⟨n, o⟩ := t
            cases o with
            | none =>
              exfalso
              rw [wildL_two, Option.bind_eq_some_iff] at hw
              obtain ⟨k, _, h2⟩ := hw
              rw [Option.bind_eq_some_iff] at h2
              obtain ⟨k2, _, h3⟩ := h2
              split at h3
              · injection h3 with h3; injection h3 with _ h3; cases h3
              · cases h3
            | some m =>
              have hw := wild_btw n m 1 (by omega) (m : Int) (IntKind.wrap IntKind.i64 (Int.ofNat 2 - Int.ofNat 1)) rfl rfl
              simp only [sR]
              rw [show List.length [lit a, lit b] = 2 from rfl]
              rw [hw]
              rfl
        | [], hne, _ => exact absurd rfl hne
        | a :: b :: c :: l, _, h3 => exact absurd (by simp) h3
    · rw [if_neg hh, decide_eq_false hh]
      have h102 : F102 (lit ((bs s).take (s.size - 2)), (lit [46]), ()) = some (splitDot (lit ((bs s).take (s.size - 2))), ()) := F102_dot _ (by omega)
      rw [h102, obs]
      simp only [Bool.not_true, Bool.not_false, cF, cT]
      split
      · rename_i hc
        obtain ⟨g1, g2, g3⟩ := hc
        have h2 : s.size = 2 := by
          cases hb : bs s with
          | nil => rw [hb] at g1; cases g1
          | cons x r =>
            rw [hb] at hh g1
            cases hn : s.size - 2 with
            | zero => omega
            | succ k =>
              rw [hn] at hh
              exact absurd (by simpa using g1) (by simpa using hh)
        exfalso
        rw [← hl, h2] at g3
        rw [show (2 - 2 : Nat) = 0 from rfl, List.drop_zero] at g3
        rw [g3] at g1
        cases g1
      · rfl
  · rw [if_neg hx, decide_eq_false hx]
    rw [F100_is, obs]
    simp only
    have hsz : ∀ x : ByteArray, x.size ≤ s.size → F102 (x, (lit [46]), ()) = some (splitDot x, ()) := fun x hx => F102_dot x (by omega)
    have hex : (if (bs s).head? = some 118 then s.extract 1 s.size else s).size ≤ s.size := by
      split
      · rw [bs_size, bs_extract, List.length_drop, List.length_take]; omega
      · omega
    rw [hsz _ hex, obs]
    simp only [Bool.not_false, cT]
    rw [if_neg (fun h => hx ⟨by have := h.2.1; omega, by rw [hl]; exact h.2.2⟩)]
    rfl
end Go.Vx.Z
/-! Words; what words say one after another. -/
namespace Go.Vx.Z
open Go Go.Vx
set_option linter.unusedVariables false
set_option maxRecDepth 100000
def itemS (w : List UInt8) : Option (List Span) := if w = [42] then some allS else match wildS w with
  | some L => some L
  | none => markS w
theorem F77_is : F77 () = some (allS, ()) := by rw [F77_eq, F43_eq, obs]; rfl
theorem F79_is (s : ByteArray) (hs : s.size ≤ 1099511627000) : F79 (s, ()) = some (optR (itemS (bs s))) := by
  rw [F79_eq, bs_toList, beq_l]
  unfold itemS
  by_cases h : bs s = [42]
  · rw [decide_eq_true h, cT, if_pos h, F77_is, obs]; rfl
  · rw [decide_eq_false h, cF, if_neg h, F98_is s hs, obs]
    cases hw : wildS (bs s) with
    | some L => rfl
    | none =>
      show (bif false then _ else _) = _
      rw [cF, F99_is s hs, obs]
theorem allS_says : Nrm allS ∧ Rng allS ∧ (∀ x, den allS x ↔ pBeg ≤ x ∧ x < pEnd) := by
  have hk : allS.map kOf = [(pBeg, pEnd)] := rfl
  refine ⟨⟨?_, ?_⟩, ?_, fun x => ?_⟩
  · rw [hk]
    refine ⟨by simp, fun p hp => ?_⟩
    rw [List.mem_singleton.1 hp]
    exact lt_end least false
  · intro s hs
    rw [List.mem_singleton.1 hs]
    exact ⟨rfl, fun _ => ⟨rfl, rfl⟩⟩
  · intro s hs
    rw [List.mem_singleton.1 hs]
    exact Std.IsPreorder.le_refl _
  · show Pc.mem (allS.map kOf) x ↔ _
    rw [hk]
    simp [Pc.mem]
theorem mark_ok {w : List UInt8} {L : List Span} (h : markS w = some L) : Nrm L ∧ Rng L ∧ L.length ≤ 2 := by
  unfold markS at h
  rw [Option.bind_eq_some_iff] at h
  obtain ⟨v, h1, h2⟩ := h
  obtain ⟨hok, _⟩ := verP_ok h1
  exact opS_ok (vOk_V hok) (fun b => vOk_beg b) h2
theorem wildP_ok (t : Nat × Option Nat) : Nrm (wildP t) ∧ Rng (wildP t) ∧ (wildP t).length ≤ 2 := by
  have key : ∀ (v : Ver) (o : Option Num3), okV v = true → pBeg ≤ ptV v → Nrm (btw (ptV v) (bumpPt o)) ∧ Rng (btw (ptV v) (bumpPt o)) ∧ (btw (ptV v) (bumpPt o)).length ≤ 2 := fun v o hv hb =>
    ⟨(btw_says (pair_bump hv o)).1, btw_rng (pair_bump hv o) hb, Nat.le_trans (btw_says (pair_bump hv o)).2.2 (by omega)⟩
  unfold wildP
  cases t.2 with
  | none => exact key _ _ (by show decide ((lit [48]).size ≤ 1099511627000) = true; decide) (pBeg_le false (least_le (Int.natCast_nonneg _) (Int.le_refl _) (Int.le_refl _)))
  | some m => exact key _ _ (by show decide ((lit [48]).size ≤ 1099511627000) = true; decide) (pBeg_le false (least_le (Int.natCast_nonneg _) (Int.natCast_nonneg _) (Int.le_refl _)))
theorem item_ok {w : List UInt8} {L : List Span} (h : itemS w = some L) : Nrm L ∧ Rng L ∧ L.length ≤ 2 := by
  unfold itemS at h
  split at h
  · injection h with h
    subst h
    exact ⟨allS_says.1, allS_says.2.1, by decide⟩
  · cases hw : wildS w with
    | none => rw [hw] at h; exact mark_ok h
    | some M =>
      rw [hw] at h
      injection h with h
      subst h
      unfold wildS at hw
      rw [Option.map_eq_some_iff] at hw
      obtain ⟨t, _, rfl⟩ := hw
      exact wildP_ok t
theorem btw_ver {v y : Nat × Nat × Nat × List UInt8} (hv : vOk v) (hy : vOk y) : Nrm (btw (ptV (vOf v)) (ptOf (vOf y) true false)) ∧ Rng (btw (ptV (vOf v)) (ptOf (vOf y) true false)) ∧ (btw (ptV (vOf v)) (ptOf (vOf y) true false)).length ≤ 2 :=
  ⟨(btw_says (pair_ver false true (vOk_V hv) (vOk_V hy))).1, btw_rng (pair_ver false true (vOk_V hv) (vOk_V hy)) (vOk_beg false), Nat.le_trans (btw_says (pair_ver false true (vOk_V hv) (vOk_V hy))).2.2 (by omega)⟩
/-! Lengths: what is normed has no more pieces than there are beginnings. -/
open Classical in
theorem nodup_len {α : Type} : ∀ (l m : List α), l.Nodup → (∀ x ∈ l, x ∈ m) → l.length ≤ m.length
  | [], m, _, _ => Nat.zero_le _
  | x :: l, m, hn, hs => by
    rw [List.nodup_cons] at hn
    have hx := hs x (by simp)
    have := nodup_len l (m.erase x) hn.2 fun y hy => by
      have hne : y ≠ x := fun h => hn.1 (h ▸ hy)
      exact (List.mem_erase_of_ne hne).2 (hs y (by simp [hy]))
    rw [List.length_erase_of_mem hx] at this
    have h0 : 0 < m.length := List.length_pos_of_mem hx
    simp only [List.length_cons]
    omega
theorem nm_froms {l : List (Pt × Pt)} (h : Pc.Nm l) : (l.map Prod.fst).Nodup := by
  rw [List.Nodup, List.pairwise_map]
  have h1 := h.1
  have h2 := h.2
  clear h
  induction l with
  | nil => exact .nil
  | cons p l ih =>
    rw [List.pairwise_cons] at h1 ⊢
    refine ⟨fun q hq he => ?_, ih h1.2 fun q hq => h2 q (by simp [hq])⟩
    have a1 := h1.1 q hq
    have a2 := h2 p (by simp)
    rw [← he] at a1
    exact absurd (show p.1 < p.1 by grind) (by grind)
theorem and_len (a b : List (Pt × Pt)) : (Pc.nf (Pc.meets a b)).length ≤ a.length + b.length := by
  have h := nodup_len ((Pc.nf (Pc.meets a b)).map Prod.fst) (a.map Prod.fst ++ b.map Prod.fst) (nm_froms (Pc.nf_ok _).1) (by
    intro x hx
    obtain ⟨p, hp, rfl⟩ := List.mem_map.1 hx
    have := nf_ends (fun x => x ∈ a.map Prod.fst ++ b.map Prod.fst) (fun _ => True) (Pc.meets a b) (by
      intro q hq
      refine ⟨?_, trivial⟩
      unfold Pc.meets at hq
      obtain ⟨u, hu, hq⟩ := List.mem_flatMap.1 hq
      obtain ⟨v, hv, rfl⟩ := List.mem_map.1 hq
      unfold Pc.meet
      simp only [List.mem_append, List.mem_map]
      split
      · exact .inr ⟨v, hv, rfl⟩
      · exact .inl ⟨u, hu, rfl⟩) p hp
    exact this.1)
  simpa using h
theorem andS_says {a b : List Span} (ha : Nrm a) (hb : Nrm b) (hra : Rng a) (hl : a.length ≤ 1000000) (hl2 : b.length ≤ 1000000) : F16 (a, b, ()) = some (andS a b, ()) ∧ Nrm (andS a b) ∧ Rng (andS a b) ∧ (∀ x, den (andS a b) x ↔ den a x ∧ den b x) ∧ (andS a b).length ≤ a.length + b.length := by
  obtain ⟨R, h1, h2, h3, h4⟩ := and_says a b ha hb hl hl2
  have h5 := F16_is a b (nrm_ok ha) (nrm_ok hb) hl hl2
  rw [h1] at h5
  have h6 : R = andS a b := (Prod.mk.inj (Option.some.inj h5)).1
  subst h6
  refine ⟨h1, h2, den_rng h2 fun x hx => (rng_den hra ((h3 x).1 hx).1).1, h3, ?_⟩
  unfold andS
  rw [List.length_map]
  have := and_len (a.map kOf) (b.map kOf)
  simpa using this
theorem orS_says {a b : List Span} (ha : Nrm a) (hb : Nrm b) (hra : Rng a) (hrb : Rng b) (hl : a.length + b.length ≤ 1000000) : F17 ([a, b], ()) = some (orS a b, ()) ∧ Nrm (orS a b) ∧ Rng (orS a b) ∧ (∀ x, den (orS a b) x ↔ den a x ∨ den b x) ∧ (orS a b).length ≤ a.length + b.length := by
  obtain ⟨R, h1, h2, h3, h4⟩ := or2_says a b ha hb hl
  have e : [a, b].flatten = a ++ b := by simp
  have h5 := F17_is [a, b] (by
    rw [e]
    intro s hs
    rcases List.mem_append.1 hs with h | h
    · exact nrm_ok ha s h
    · exact nrm_ok hb s h) (by rw [e, List.length_append]; simp only [big]; omega) (by show 2 ≤ big; decide)
  rw [h1, e] at h5
  have h6 : R = orS a b := (Prod.mk.inj (Option.some.inj h5)).1
  subst h6
  exact ⟨h1, h2, or_rng hra hrb h2 h3, h3, h4⟩
end Go.Vx.Z
/-! A text as words; the program's reader. -/
namespace Go.Vx.Z
open Go Go.Vx
set_option linter.unusedVariables false
set_option maxRecDepth 100000
inductive Tok where
  | w (u : List UInt8) (p : Nat)
  | bar (p : Nat)
  | bad (p : Nat)
  | fin
abbrev PV := Nat × Nat × Nat × List UInt8
inductive St where
  | start
  | mid
  | plain (v : PV) (L : List Span)
  | dash (v : PV)
def goP : List Tok → List Span → List Span → St → List Span ⊕ Nat
  | [], _, _, _ => .inr 0
  | .w u p :: ts, out, acc, .dash v => (match verP u with
      | none => .inr p
      | some y => goP ts out (andS acc (btw (ptV (vOf v)) (ptOf (vOf y) true false))) .mid)
  | .w u p :: ts, out, acc, .plain v L => if u = [45] then goP ts out acc (.dash v) else (match itemS u with
      | none => .inr p
      | some M => (match verP u with
        | some y => goP ts out (andS acc L) (.plain y M)
        | none => goP ts out (andS (andS acc L) M) .mid))
  | .w u p :: ts, out, acc, .start => (match itemS u with
      | none => .inr p
      | some M => (match verP u with
        | some y => goP ts out acc (.plain y M)
        | none => goP ts out (andS acc M) .mid))
  | .w u p :: ts, out, acc, .mid => (match itemS u with
      | none => .inr p
      | some M => (match verP u with
        | some y => goP ts out acc (.plain y M)
        | none => goP ts out (andS acc M) .mid))
  | .bar p :: ts, out, acc, .start => .inr p
  | .bar p :: ts, out, acc, .dash _ => .inr p
  | .bar p :: ts, out, acc, .plain _ L => goP ts (orS out (andS acc L)) allS .start
  | .bar p :: ts, out, acc, .mid => goP ts (orS out acc) allS .start
  | .bad p :: _, _, _, .start => .inr p
  | .bad p :: _, _, _, .dash _ => .inr p
  | .bad p :: _, _, _, .plain _ _ => .inr (p - 1)
  | .bad p :: _, _, _, .mid => .inr (p - 1)
  | .fin :: _, _, _, .start => .inr 0
  | .fin :: _, _, _, .dash _ => .inr 0
  | .fin :: _, out, acc, .plain _ L => .inl (orS out (andS acc L))
  | .fin :: _, out, acc, .mid => .inl (orS out acc)
abbrev blk1 (c : UInt8) : Bool := c == 32
def tokc (c : UInt8) : Bool := !(c == 32) && !(c == 124)
def lexN : Nat → List UInt8 → List Tok
  | 0, _ => [.fin]
  | n + 1, l => match l.dropWhile blk1 with
    | [] => [.fin]
    | c :: r => if c = 124 then (match r with
        | [] => [.bad 1]
        | d :: r' => if d = 124 then .bar (r'.length + 2) :: lexN n r' else [.bad (r'.length + 2)])
      else .w ((c :: r).takeWhile tokc) (r.length + 1) :: lexN n ((c :: r).dropWhile tokc)
def lex (l : List UInt8) : List Tok := lexN (l.length + 1) l
theorem dw_len {α : Type} (p : α → Bool) (l : List α) : (l.dropWhile p).length ≤ l.length := by
  have h1 := List.takeWhile_append_dropWhile (p := p) (l := l)
  have h2 := congrArg List.length h1
  rw [List.length_append] at h2
  omega
theorem lex_fuel : ∀ (n m : Nat) (l : List UInt8), l.length < n → l.length < m → lexN n l = lexN m l
  | 0, _, l, h, _ => absurd h (by omega)
  | _, 0, l, _, h => absurd h (by omega)
  | n + 1, m + 1, l, h1, h2 => by
    have hd := dw_len blk1 l
    unfold lexN
    cases hl : l.dropWhile blk1 with
    | nil => rfl
    | cons c r =>
      rw [hl] at hd
      simp only [List.length_cons] at hd
      simp only
      split
      · cases r with
        | nil => rfl
        | cons d r' =>
          simp only
          split
          · simp only [List.length_cons] at hd
            rw [lex_fuel n m r' (by omega) (by omega)]
          · rfl
      · rename_i hc
        have h3 : ((c :: r).dropWhile tokc).length ≤ r.length := by
          have h4 : c ≠ 32 := fun h => by
            have := dw_head l c r hl
            rw [h] at this
            exact absurd this (by decide)
          have h5 : tokc c = true := by
            unfold tokc
            rw [Bool.and_eq_true, Bool.not_eq_true', Bool.not_eq_true', ← Bool.not_eq_true, ← Bool.not_eq_true, beq_iff_eq, beq_iff_eq]
            exact ⟨h4, hc⟩
          rw [List.dropWhile_cons, if_pos h5]
          exact dw_len tokc r
        rw [lex_fuel n m _ (by omega) (by omega)]
abbrev nx (l : List UInt8) : List UInt8 := l.dropWhile blk1
theorem nx_head {l : List UInt8} {c : UInt8} {r : List UInt8} (h : nx l = c :: r) : c ≠ 32 := fun hc => by
  have := dw_head l c r h
  rw [hc] at this
  exact absurd this (by decide)
theorem lex_nil {l : List UInt8} (h : nx l = []) : lex l = [.fin] := by
  unfold lex lexN
  rw [show l.dropWhile blk1 = [] from h]
theorem lex_bad1 {l : List UInt8} (h : nx l = [124]) : lex l = [.bad 1] := by
  unfold lex lexN
  rw [show l.dropWhile blk1 = [124] from h]
  rfl
theorem lex_bad {l : List UInt8} {d : UInt8} {r : List UInt8} (h : nx l = 124 :: d :: r) (hd : d ≠ 124) : lex l = [.bad (r.length + 2)] := by
  unfold lex lexN
  rw [show l.dropWhile blk1 = 124 :: d :: r from h]
  show (if (124 : UInt8) = 124 then (if d = 124 then _ else _) else _) = _
  rw [if_pos rfl, if_neg hd]
theorem lex_bar {l r : List UInt8} (h : nx l = 124 :: 124 :: r) : lex l = .bar (r.length + 2) :: lex r := by
  have hd := dw_len blk1 l
  rw [show l.dropWhile blk1 = 124 :: 124 :: r from h] at hd
  simp only [List.length_cons] at hd
  unfold lex
  conv => lhs; unfold lexN
  rw [show l.dropWhile blk1 = 124 :: 124 :: r from h]
  show (if (124 : UInt8) = 124 then (if (124 : UInt8) = 124 then _ else _) else _) = _
  rw [if_pos rfl, if_pos rfl, lex_fuel l.length (r.length + 1) r (by omega) (by omega)]
theorem lex_w {l : List UInt8} {c : UInt8} {r : List UInt8} (h : nx l = c :: r) (hc : c ≠ 124) : lex l = .w ((c :: r).takeWhile tokc) (r.length + 1) :: lex ((c :: r).dropWhile tokc) := by
  have hd := dw_len blk1 l
  rw [show l.dropWhile blk1 = c :: r from h] at hd
  simp only [List.length_cons] at hd
  have h4 := nx_head h
  have h5 : tokc c = true := by
    unfold tokc
    rw [Bool.and_eq_true, Bool.not_eq_true', Bool.not_eq_true', ← Bool.not_eq_true, ← Bool.not_eq_true, beq_iff_eq, beq_iff_eq]
    exact ⟨h4, hc⟩
  have h3 : ((c :: r).dropWhile tokc).length ≤ r.length := by
    rw [List.dropWhile_cons, if_pos h5]
    exact dw_len tokc r
  unfold lex
  conv => lhs; unfold lexN
  rw [show l.dropWhile blk1 = c :: r from h]
  show (if c = 124 then _ else _) = _
  rw [if_neg hc, lex_fuel l.length _ _ (by omega) (Nat.lt_succ_self _)]
theorem lex_nx (l : List UInt8) : lex (nx l) = lex l := by
  have hh : nx (nx l) = nx l := by
    cases h : nx l with
    | nil => rfl
    | cons c r =>
      have := nx_head h
      show (c :: r).dropWhile blk1 = _
      rw [List.dropWhile_cons, if_neg (by simpa using this)]
  cases h : nx l with
  | nil => rw [lex_nil h]; exact lex_nil rfl
  | cons c r =>
    rw [h] at hh
    by_cases hc : c = 124
    · subst hc
      cases r with
      | nil => rw [lex_bad1 h, lex_bad1 hh]
      | cons d r =>
        by_cases hd : d = 124
        · subst hd; rw [lex_bar h, lex_bar hh]
        · rw [lex_bad h hd, lex_bad hh hd]
    · rw [lex_w h hc, lex_w hh hc]
/-! the reader -/
theorem F156_is (s : ByteArray) (i : Nat) : F156 (s, (i : Int), ()) = some ((if i < s.size then bt s (i : Int) else 0), decide (i < s.size), s, (i : Int), ()) := by
  rw [F156_eq]
  by_cases h : i < s.size
  · rw [if_pos h, decide_eq_true h, show decide ((i : Int) ≥ Int.ofNat s.size) = false from decide_eq_false (by show ¬ (s.size : Int) ≤ _; omega), cF, ge_zero, lt_in h]
    rfl
  · rw [if_neg h, decide_eq_false h, show decide ((i : Int) ≥ Int.ofNat s.size) = true from decide_eq_true (by show (s.size : Int) ≤ _; omega), cT]
    rfl
theorem idx_one (c : UInt8) : decide (Lib.indexByte [32] c ≥ Int.ofNat 0) = (c == 32) := by
  unfold Lib.indexByte
  cases h : ((32 : UInt8) == c) with
  | true =>
    have : c = 32 := by simpa using (beq_iff_eq.1 h).symm
    subst this; rfl
  | false =>
    have : (c == 32) = false := by
      rw [← Bool.not_eq_true, beq_iff_eq]
      intro hc
      rw [hc] at h
      exact absurd h (by decide)
    rw [this]
    rfl
theorem F126_is (s : ByteArray) (hs : s.size ≤ 1099511627000) (j : Nat) (hj : j ≤ s.size) : ∃ x, F126 ((lit [32]), s, (j : Int), ()) = some (x, s, ((s.size - (nx ((bs s).drop j)).length : Nat) : Int), ()) := by
  have hl := bs_size s
  rw [F126_eq, F156_is, obs]
  have := scan (B := B126_0) (bs s) blk1 (fun i => (lit [32], (j : Int), (if i < s.size then bt s (i : Int) else 0), decide (i < s.size), s, (i : Int), ())) (fun i => ((j : Int), s, (i : Int), ())) (fun i h hp => by
    have hb : bt s (i : Int) = (((bs s)[i]'h).toNat : Int) := bt_eq s i (by omega)
    generalize (bs s)[i]'h = c at hb hp
    have hlt : i < s.size := by omega
    rw [B126_0_eq, decide_eq_true hlt, cT, if_pos hlt, hb, F133_eq, F161_eq, obs, xIndexByte_eq, bs_lit, Int.toNat_natCast, show c.toNat.toUInt8 = c from UInt8.ofNat_toNat, obs]
    simp only
    rw [idx_one, show (c == 32) = true from hp, cT, wrap_next hlt (by omega), F156_is, obs]) (fun i h hp => by
    have hb : bt s (i : Int) = (((bs s)[i]'h).toNat : Int) := bt_eq s i (by omega)
    generalize (bs s)[i]'h = c at hb hp
    have hlt : i < s.size := by omega
    rw [B126_0_eq, decide_eq_true hlt, cT, if_pos hlt, hb, F133_eq, F161_eq, obs, xIndexByte_eq, bs_lit, Int.toNat_natCast, show c.toNat.toUInt8 = c from UInt8.ofNat_toNat, obs]
    simp only
    rw [idx_one, show (c == 32) = false from hp, cF]) (by
    rw [B126_0_eq, decide_eq_false (by omega), cF]) j (by omega)
  rw [this, obs]
  simp only
  have h1 := tw_len blk1 ((bs s).drop j)
  rw [List.length_drop] at h1
  have h2 := congrArg List.length (dw_drop blk1 ((bs s).drop j))
  rw [List.length_drop, List.length_drop] at h2
  have h3 : j + (((bs s).drop j).takeWhile blk1).length = s.size - (nx ((bs s).drop j)).length := by
    show _ = s.size - (((bs s).drop j).dropWhile blk1).length
    omega
  rw [h3]
  have e : (decide (Int.ofNat 0 ≤ (j : Int)) && (decide ((j : Int) ≤ ((s.size - (nx ((bs s).drop j)).length : Nat) : Int)) && decide (((s.size - (nx ((bs s).drop j)).length : Nat) : Int) ≤ Int.ofNat s.size))) = true := by
    rw [ge_zero, Bool.true_and, Bool.and_eq_true, decide_eq_true_eq, decide_eq_true_eq]
    exact ⟨by omega, by show _ ≤ (s.size : Int); omega⟩
  rw [e, cT, F104_is _ (by rw [bs_size, bs_extract, List.length_drop, List.length_take]; omega), obs]
  exact ⟨_, rfl⟩
theorem nx_drop (s : ByteArray) (j : Nat) (hj : j ≤ s.size) : nx ((bs s).drop j) = (bs s).drop (s.size - (nx ((bs s).drop j)).length) ∧ j ≤ s.size - (nx ((bs s).drop j)).length := by
  have hl := bs_size s
  have h1 := tw_len blk1 ((bs s).drop j)
  rw [List.length_drop] at h1
  have h2 := dw_drop blk1 ((bs s).drop j)
  have h3 := congrArg List.length h2
  rw [List.length_drop, List.length_drop] at h3
  rw [List.drop_drop] at h2
  have h4 : j + (((bs s).drop j).takeWhile blk1).length = s.size - (nx ((bs s).drop j)).length := by
    show _ = s.size - (((bs s).drop j).dropWhile blk1).length
    omega
  rw [h4] at h2
  exact ⟨h2, by omega⟩
def idxAny (l : List UInt8) : Int := if l.dropWhile tokc = [] then -1 else ((l.takeWhile tokc).length : Int)
theorem any_is : ∀ l : List UInt8, Lib.indexAny l [32, 124] = idxAny l
  | [] => rfl
  | x :: l => by
    have ih := any_is l
    unfold Lib.indexAny idxAny
    rw [List.takeWhile_cons, List.dropWhile_cons, ih]
    have hx : [32, 124].contains x = !tokc x := by
      unfold tokc
      simp only [List.contains_cons, List.contains_nil, Bool.or_false]
      rw [Bool.not_and, Bool.not_not, Bool.not_not]
    rw [hx]
    cases ht : tokc x with
    | false => rfl
    | true =>
      simp only [Bool.not_true, Bool.false_eq_true, if_false, if_true]
      unfold idxAny
      by_cases h : l.dropWhile tokc = []
      · rw [if_pos h, if_pos h]; rfl
      · rw [if_neg h, if_neg h]
        have h2 : ∀ n : Nat, (((n : Nat) : Int) == -1) = false := fun n => by
          rw [← Bool.not_eq_true, beq_iff_eq]; omega
        rw [h2]
        simp
def AnyOk (s : ByteArray) : Prop := ∀ k, k ≤ s.size → FIndexAny (s.extract k s.size, (lit [32, 124]), ()) = some (idxAny ((bs s).drop k), ())
theorem any_low (s : ByteArray) (hs : s.size ≤ 1000000000) (h : low (bs s) = true) : AnyOk s := by
  intro k hk
  have hl := bs_size s
  have hb : bs (s.extract k s.size) = (bs s).drop k := by rw [bs_extract, hl, List.take_length]
  unfold FIndexAny
  have h1 : low (s.extract k s.size).data.toList = true := by
    show low (bs (s.extract k s.size)) = true
    rw [hb]
    unfold low at h ⊢
    rw [List.all_eq_true] at h ⊢
    exact fun c hc => h c (List.drop_subset _ _ hc)
  have h2 : (s.extract k s.size).size ≤ 1000000000 := by rw [bs_size, hb, List.length_drop]; omega
  have e : (decide ((s.extract k s.size).size < 4294967281) && (decide (2 ≤ (lit [32, 124]).size) && (decide ((lit [32, 124]).size < 4294967281) && (low (lit [32, 124]).data.toList && (decide (8 < (s.extract k s.size).size) || low (s.extract k s.size).data.toList))))) = true := by
    rw [h1, decide_eq_true (show (s.extract k s.size).size < 4294967281 by omega), Bool.or_true]
    rfl
  simp only [e, cT]
  refine congrArg (fun z => some (z, ())) ?_
  show Lib.indexAny (bs (s.extract k s.size)) [32, 124] = _
  rw [hb, any_is]
abbrev wd (l : List UInt8) : List UInt8 := (nx l).takeWhile tokc
abbrev fr (s : ByteArray) (j : Nat) : Nat := s.size - (nx ((bs s).drop j)).length
theorem F52_is (s : ByteArray) (hs : s.size ≤ 1099511627000) (w : ByteArray) (j : Nat) (hj : j ≤ s.size) : F52 (w, s, (j : Int), ()) = some (decide (bs w <+: (bs s).drop j), s, (if bs w <+: (bs s).drop j then ((j + w.size : Nat) : Int) else (j : Int)), ()) := by
  have hl := bs_size s
  have hwl := bs_size w
  rw [F52_eq]
  have e : (decide (Int.ofNat 0 ≤ (j : Int)) && (decide ((j : Int) ≤ Int.ofNat s.size) && decide (Int.ofNat s.size ≤ Int.ofNat s.size))) = true := by
    rw [ge_zero, Bool.true_and, Bool.and_eq_true, decide_eq_true_eq, decide_eq_true_eq]
    exact ⟨by show (j : Int) ≤ (s.size : Int); omega, Int.le_refl _⟩
  have hb : bs (s.extract (Int.toNat (j : Int)) (Int.toNat (Int.ofNat s.size))) = (bs s).drop j := by
    rw [bs_extract, Int.toNat_natCast]
    show ((bs s).take s.size).drop j = _
    rw [hl, List.take_length]
  rw [e, cT, F82_eq, F106_is, hb, obs, obs]
  simp only
  by_cases h : bs w <+: (bs s).drop j
  · have hle := h.length_le
    rw [List.length_drop] at hle
    rw [decide_eq_true h, if_pos h, Bool.not_true, cF]
    have : IntKind.wrap IntKind.i64 ((j : Int) + Int.ofNat w.size) = ((j + w.size : Nat) : Int) := by
      show IntKind.wrap IntKind.i64 ((j : Int) + (w.size : Int)) = _
      rw [wrap64 (by omega) (by omega)]; omega
    rw [this]
  · rw [decide_eq_false h, if_neg h]
    rfl
theorem F78_is (s : ByteArray) (hs : s.size ≤ 1099511627000) (hA : AnyOk s) (word : ByteArray) (x2 : Int) (j : Nat) (hj : j ≤ s.size) :
    F78 (s, word, x2, s, (j : Int), ()) = some (!(wd ((bs s).drop j)).isEmpty, s, lit (wd ((bs s).drop j)), ((fr s j : Nat) : Int), s, ((fr s j + (wd ((bs s).drop j)).length : Nat) : Int), ()) := by
  have hl := bs_size s
  obtain ⟨x, h1⟩ := F126_is s hs j hj
  rw [F78_eq, F96_eq, h1, obs, obs]
  simp only
  obtain ⟨hn, hjf⟩ := nx_drop s j hj
  have hf : fr s j ≤ s.size := Nat.sub_le _ _
  rw [show s.size - (nx ((bs s).drop j)).length = fr s j from rfl] at *
  have hw : wd ((bs s).drop j) = ((bs s).drop (fr s j)).takeWhile tokc := by show (nx ((bs s).drop j)).takeWhile tokc = _; rw [hn]
  rw [hw]
  generalize fr s j = k at *
  have e : (decide (Int.ofNat 0 ≤ (k : Int)) && (decide ((k : Int) ≤ Int.ofNat s.size) && decide (Int.ofNat s.size ≤ Int.ofNat s.size))) = true := by
    rw [ge_zero, Bool.true_and, Bool.and_eq_true, decide_eq_true_eq, decide_eq_true_eq]
    exact ⟨by show (k : Int) ≤ (s.size : Int); omega, Int.le_refl _⟩
  have hFI : FIndexAny (s.extract (Int.toNat (k : Int)) (Int.toNat (Int.ofNat s.size)), (lit [32, 124]), ()) = _ := hA k hf
  rw [e, cT, hFI, obs]
  unfold idxAny
  have htl := tw_len tokc ((bs s).drop k)
  rw [List.length_drop] at htl
  have htk := tw_take tokc ((bs s).drop k)
  have happ := List.takeWhile_append_dropWhile (p := tokc) (l := (bs s).drop k)
  have hpre : ((bs s).drop k).takeWhile tokc <+: (bs s).drop k := ⟨_, happ⟩
  have hdec : ∀ u : List UInt8, decide (((u.length : Nat) : Int) > Int.ofNat 0) = !u.isEmpty := fun u => by
    cases u with
    | nil => rfl
    | cons x u => exact decide_eq_true (by show (0 : Int) < ((u.length + 1 : Nat) : Int); omega)
  by_cases hd : ((bs s).drop k).dropWhile tokc = []
  · rw [if_pos hd]
    rw [hd, List.append_nil] at happ
    have hlen : (((bs s).drop k).takeWhile tokc).length = s.size - k := by rw [happ, List.length_drop, hl]
    generalize hT : ((bs s).drop k).takeWhile tokc = T at *
    have e1 : IntKind.wrap IntKind.i64 (Int.ofNat s.size - (k : Int)) = ((T.length : Nat) : Int) := by
      show IntKind.wrap IntKind.i64 ((s.size : Int) - (k : Int)) = _
      rw [wrap64 (by omega) (by omega)]; omega
    have e2 : IntKind.wrap IntKind.i64 ((k : Int) + ((T.length : Nat) : Int)) = ((k + T.length : Nat) : Int) := by
      rw [wrap64 (by omega) (by omega)]; omega
    have e3 : (decide (Int.ofNat 0 ≤ (k : Int)) && (decide ((k : Int) ≤ ((k + T.length : Nat) : Int)) && decide (((k + T.length : Nat) : Int) ≤ Int.ofNat s.size))) = true := by
      rw [ge_zero, Bool.true_and, Bool.and_eq_true, decide_eq_true_eq, decide_eq_true_eq]
      exact ⟨by omega, by show _ ≤ (s.size : Int); omega⟩
    have e4 : s.extract (Int.toNat (k : Int)) (Int.toNat ((k + T.length : Nat) : Int)) = lit T := bs_inj (by
      rw [bs_extract, Int.toNat_natCast, Int.toNat_natCast, bs_lit, List.drop_take, show k + T.length - k = T.length by omega]
      exact htk.symm)
    simp only
    rw [show decide ((-1 : Int) < Int.ofNat 0) = true from rfl, cT, e1, e2, e3, cT, e4, F52_is s hs (lit T) k hf, bs_lit, decide_eq_true hpre, if_pos hpre, obs]
    simp only
    rw [cT, hdec]
    rfl
  · rw [if_neg hd]
    generalize hT : ((bs s).drop k).takeWhile tokc = T at *
    have e2 : IntKind.wrap IntKind.i64 ((k : Int) + ((T.length : Nat) : Int)) = ((k + T.length : Nat) : Int) := by
      rw [wrap64 (by omega) (by omega)]; omega
    have e3 : (decide (Int.ofNat 0 ≤ (k : Int)) && (decide ((k : Int) ≤ ((k + T.length : Nat) : Int)) && decide (((k + T.length : Nat) : Int) ≤ Int.ofNat s.size))) = true := by
      rw [ge_zero, Bool.true_and, Bool.and_eq_true, decide_eq_true_eq, decide_eq_true_eq]
      exact ⟨by omega, by show _ ≤ (s.size : Int); omega⟩
    have e4 : s.extract (Int.toNat (k : Int)) (Int.toNat ((k + T.length : Nat) : Int)) = lit T := bs_inj (by
      rw [bs_extract, Int.toNat_natCast, Int.toNat_natCast, bs_lit, List.drop_take, show k + T.length - k = T.length by omega]
      exact htk.symm)
    simp only
    rw [show decide (((T.length : Nat) : Int) < Int.ofNat 0) = false from decide_eq_false (by show ¬ ((T.length : Nat) : Int) < 0; omega), cF, e2, e3, cT, e4, F52_is s hs (lit T) k hf, bs_lit, decide_eq_true hpre, if_pos hpre, obs]
    simp only
    rw [cT, hdec]
    rfl
end Go.Vx.Z
/-! span.Parse. -/
namespace Go.Vx.Z
open Go Go.Vx
set_option linter.unusedVariables false
set_option maxRecDepth 100000
abbrev bh (s : ByteArray) (j : Nat) : Nat := fr s j + (wd ((bs s).drop j)).length
theorem fr_le (s : ByteArray) (j : Nat) (hj : j ≤ s.size) : j ≤ fr s j ∧ fr s j ≤ s.size := ⟨(nx_drop s j hj).2, Nat.sub_le _ _⟩
theorem bh_le (s : ByteArray) (j : Nat) (hj : j ≤ s.size) : fr s j ≤ bh s j ∧ bh s j ≤ s.size := by
  obtain ⟨h1, h2⟩ := nx_drop s j hj
  have h3 := tw_len tokc (nx ((bs s).drop j))
  have hl := bs_size s
  have h4 : (nx ((bs s).drop j)).length ≤ s.size := by
    have h5 : (nx ((bs s).drop j)).length ≤ ((bs s).drop j).length := dw_len blk1 _
    rw [List.length_drop] at h5
    omega
  refine ⟨Nat.le_add_right _ _, ?_⟩
  show s.size - (nx ((bs s).drop j)).length + ((nx ((bs s).drop j)).takeWhile tokc).length ≤ s.size
  omega
theorem bh_drop (s : ByteArray) (j : Nat) (hj : j ≤ s.size) : (bs s).drop (bh s j) = (nx ((bs s).drop j)).dropWhile tokc := by
  obtain ⟨h1, h2⟩ := nx_drop s j hj
  have h3 : (nx ((bs s).drop j)).dropWhile tokc = (nx ((bs s).drop j)).drop (wd ((bs s).drop j)).length := dw_drop _ _
  have h4 : nx ((bs s).drop j) = (bs s).drop (fr s j) := h1
  rw [h3, congrArg (List.drop (wd ((bs s).drop j)).length) h4, List.drop_drop]
theorem wd_nil {l : List UInt8} (h : wd l = []) : nx l = [] ∨ ∃ r, nx l = 124 :: r := by
  cases hn : nx l with
  | nil => exact .inl rfl
  | cons c r =>
    right
    have h1 := nx_head hn
    have h2 : (nx l).takeWhile tokc = [] := h
    rw [hn, List.takeWhile_cons] at h2
    split at h2
    · cases h2
    · rename_i ht
      have h3 : tokc c = false := by simpa using ht
      unfold tokc at h3
      rw [show (c == 32) = false by simpa using h1, Bool.not_false, Bool.true_and, Bool.not_eq_false', beq_iff_eq] at h3
      exact ⟨r, by rw [h3]⟩
theorem lex_word (s : ByteArray) (j : Nat) (hj : j ≤ s.size) (h : wd ((bs s).drop j) ≠ []) : lex ((bs s).drop j) = .w (wd ((bs s).drop j)) (s.size - fr s j) :: lex ((bs s).drop (bh s j)) ∧ j < bh s j := by
  have hl := bs_size s
  have h4 : (nx ((bs s).drop j)).length ≤ s.size := by
    have h5 : (nx ((bs s).drop j)).length ≤ ((bs s).drop j).length := dw_len blk1 _
    rw [List.length_drop] at h5
    omega
  have hb := bh_drop s j hj
  have hf := fr_le s j hj
  have hlen := List.length_pos_iff.2 h
  cases hn : nx ((bs s).drop j) with
  | nil =>
    have : (nx ((bs s).drop j)).takeWhile tokc = [] := by rw [hn]; rfl
    exact absurd this h
  | cons c r =>
    have hc : c ≠ 124 := by
      intro hc
      have : (nx ((bs s).drop j)).takeWhile tokc = [] := by
        rw [hn, hc]
        rfl
      exact h this
    rw [lex_w hn hc]
    have hbd : bh s j = fr s j + (wd ((bs s).drop j)).length := rfl
    refine ⟨?_, by omega⟩
    rw [hb]
    have e1 : wd ((bs s).drop j) = (c :: r).takeWhile tokc := by show (nx ((bs s).drop j)).takeWhile tokc = _; rw [hn]
    have e2 : s.size - fr s j = r.length + 1 := by
      show s.size - (s.size - (nx ((bs s).drop j)).length) = _
      rw [hn] at h4 ⊢
      simp only [List.length_cons] at h4 ⊢
      omega
    rw [e1, e2, hn]
theorem lex_stop (s : ByteArray) (j : Nat) (hj : j ≤ s.size) (h : wd ((bs s).drop j) = []) :
    (lex ((bs s).drop j) = [.fin] ∧ fr s j = s.size) ∨ (lex ((bs s).drop j) = [.bad (s.size - fr s j)] ∧ fr s j < s.size ∧ ¬ [124, 124] <+: (bs s).drop (fr s j)) ∨
    (lex ((bs s).drop j) = .bar (s.size - fr s j) :: lex ((bs s).drop (fr s j + 2)) ∧ fr s j + 2 ≤ s.size ∧ [124, 124] <+: (bs s).drop (fr s j)) := by
  have hl := bs_size s
  have h4 : (nx ((bs s).drop j)).length ≤ s.size := by
    have h5 : (nx ((bs s).drop j)).length ≤ ((bs s).drop j).length := dw_len blk1 _
    rw [List.length_drop] at h5
    omega
  obtain ⟨hn, hf⟩ := nx_drop s j hj
  have e2 : s.size - fr s j = (nx ((bs s).drop j)).length := by show s.size - (s.size - _) = _; omega
  have e3 : fr s j = s.size - (nx ((bs s).drop j)).length := rfl
  have hn' : nx ((bs s).drop j) = (bs s).drop (fr s j) := hn
  rcases wd_nil h with h1 | ⟨r, h1⟩
  · left
    refine ⟨lex_nil h1, ?_⟩
    rw [e3, h1]; rfl
  · right
    rw [h1] at hn' e2 e3 h4
    cases r with
    | nil =>
      left
      simp only [List.length_cons, List.length_nil] at e2 e3 h4
      refine ⟨by rw [lex_bad1 h1, e2], by omega, ?_⟩
      rw [← hn']
      intro hp
      have := hp.length_le
      simp at this
    | cons d r =>
      simp only [List.length_cons] at e2 e3 h4
      by_cases hd : d = 124
      · right
        subst hd
        refine ⟨?_, by omega, ?_⟩
        · rw [lex_bar h1, e2]
          have : (bs s).drop (fr s j + 2) = r := by rw [← List.drop_drop, ← hn']; rfl
          rw [this]
        · rw [← hn']
          exact ⟨r, rfl⟩
      · left
        refine ⟨by rw [lex_bad h1 hd, e2], by omega, ?_⟩
        rw [← hn']
        rintro ⟨t, ht⟩
        injection ht with _ ht
        injection ht with ht _
        exact hd ht.symm
theorem stop_start (s : ByteArray) (j : Nat) (hj : j ≤ s.size) (h : wd ((bs s).drop j) = []) (out acc : List Span) : goP (lex ((bs s).drop j)) out acc .start = .inr (s.size - fr s j) := by
  rcases lex_stop s j hj h with ⟨h1, h2⟩ | ⟨h1, h2, _⟩ | ⟨h1, h2, _⟩
  · rw [h1, h2, Nat.sub_self]; rfl
  · rw [h1]; rfl
  · rw [h1]; rfl
theorem stop_dash (s : ByteArray) (j : Nat) (hj : j ≤ s.size) (h : wd ((bs s).drop j) = []) (out acc : List Span) (v : PV) : goP (lex ((bs s).drop j)) out acc (.dash v) = .inr (s.size - fr s j) := by
  rcases lex_stop s j hj h with ⟨h1, h2⟩ | ⟨h1, h2, _⟩ | ⟨h1, h2, _⟩
  · rw [h1, h2, Nat.sub_self]; rfl
  · rw [h1]; rfl
  · rw [h1]; rfl
theorem go_mid {u : List UInt8} {p : Nat} {ts : List Tok} {out acc : List Span} : goP (.w u p :: ts) out acc .mid = match itemS u with
      | none => .inr p
      | some M => (match verP u with
        | some y => goP ts out acc (.plain y M)
        | none => goP ts out (andS acc M) .mid) := rfl
theorem go_start {u : List UInt8} {p : Nat} {ts : List Tok} {out acc : List Span} : goP (.w u p :: ts) out acc .start = goP (.w u p :: ts) out acc .mid := rfl
theorem go_dash {u : List UInt8} {p : Nat} {ts : List Tok} {out acc : List Span} {v : PV} : goP (.w u p :: ts) out acc (.dash v) = match verP u with
      | none => .inr p
      | some y => goP ts out (andS acc (btw (ptV (vOf v)) (ptOf (vOf y) true false))) .mid := rfl
theorem go_plain {u : List UInt8} {p : Nat} {ts : List Tok} {out acc : List Span} {v : PV} {L : List Span} : goP (.w u p :: ts) out acc (.plain v L) = if u = [45] then goP ts out acc (.dash v) else goP (.w u p :: ts) out (andS acc L) .mid := rfl
theorem plain_mid (s : ByteArray) (j : Nat) (hj : j ≤ s.size) (h : wd ((bs s).drop j) ≠ [45]) (out acc : List Span) (v : PV) (L : List Span) : goP (lex ((bs s).drop j)) out acc (.plain v L) = goP (lex ((bs s).drop j)) out (andS acc L) .mid := by
  by_cases h0 : wd ((bs s).drop j) = []
  · rcases lex_stop s j hj h0 with ⟨h1, h2⟩ | ⟨h1, h2, _⟩ | ⟨h1, h2, _⟩ <;> rw [h1] <;> rfl
  · obtain ⟨h1, _⟩ := lex_word s j hj h0
    rw [h1, go_plain, if_neg h]
theorem fr_fix (s : ByteArray) (j : Nat) (hj : j ≤ s.size) : nx ((bs s).drop (fr s j)) = (bs s).drop (fr s j) ∧ wd ((bs s).drop (fr s j)) = wd ((bs s).drop j) ∧ lex ((bs s).drop (fr s j)) = lex ((bs s).drop j) ∧ fr s (fr s j) = fr s j := by
  obtain ⟨hn, hf⟩ := nx_drop s j hj
  have hn' : nx ((bs s).drop j) = (bs s).drop (fr s j) := hn
  have hh : nx (nx ((bs s).drop j)) = nx ((bs s).drop j) := by
    cases h : nx ((bs s).drop j) with
    | nil => rfl
    | cons c r =>
      have := nx_head h
      show (c :: r).dropWhile blk1 = _
      rw [List.dropWhile_cons, if_neg (by simpa using this)]
  have h1 : nx ((bs s).drop (fr s j)) = (bs s).drop (fr s j) := by rw [← hn', hh]
  refine ⟨h1, ?_, ?_, ?_⟩
  · show (nx ((bs s).drop (fr s j))).takeWhile tokc = (nx ((bs s).drop j)).takeWhile tokc
    rw [h1, hn']
  · rw [← hn', lex_nx]
  · show s.size - (nx ((bs s).drop (fr s j))).length = s.size - (nx ((bs s).drop j)).length
    rw [h1, ← hn']
abbrev PE := (List Span × Bool × ByteArray × ByteArray × Int × ByteArray × Int × Unit) ⊕ (ByteArray × ByteArray × Int × ByteArray × Int × Unit)
def PartEnd (s : ByteArray) (a0 j : Nat) (e : PE) (g : List Span → List Span ⊕ Nat) : Prop :=
  (∃ rem w x, rem ≤ s.size ∧ e = .inl ([], false, s, w, ((s.size - rem : Nat) : Int), s, x, ()) ∧ ∀ out, g out = .inr rem) ∨
  (∃ acc' w k, e = .inl (acc', true, s, w, ((k : Nat) : Int), s, ((k : Nat) : Int), ()) ∧ k ≤ s.size ∧ j ≤ k ∧ Nrm acc' ∧ Rng acc' ∧ acc'.length + 2 * a0 ≤ 2 * k + 1 ∧ fr s k = k ∧ wd ((bs s).drop k) = [] ∧ ∀ out, g out = goP (lex ((bs s).drop k)) out acc' .mid)
theorem part_next (s : ByteArray) (hs : s.size ≤ 400000) (a0 j0 j : Nat) (hj : j ≤ s.size) (hj0 : j0 ≤ j) (acc2 : List Span) (hn : Nrm acc2) (hr : Rng acc2) (hlen : acc2.length + 2 * a0 ≤ 2 * j + 1)
    (ih : ∀ (j' : Nat) (acc' : List Span) (u' : List UInt8) (p' : Nat) (n' : Int), j0 < j' → j' ≤ s.size → p' ≤ s.size → u'.length ≤ s.size → Nrm acc' → Rng acc' → acc'.length + 1 + 2 * a0 ≤ 2 * j' →
      ∃ e : PE, loop B51_0 (acc', true, n', s, lit u', ((s.size - p' : Nat) : Int), s, (j' : Int), ()) = some e ∧ PartEnd s a0 j' e (fun out => goP (.w u' p' :: lex ((bs s).drop j')) out acc' .mid))
    (P : List Span × Bool × Int × ByteArray × ByteArray × Int × ByteArray × Int × Unit) (n' : Int)
    (hB : B51_0 P = bif !(!(wd ((bs s).drop j)).isEmpty) then some (.inr (.inl (acc2, true, s, lit (wd ((bs s).drop j)), ((fr s j : Nat) : Int), s, ((fr s j + (wd ((bs s).drop j)).length : Nat) : Int), ()))) else some (.inl (acc2, !(wd ((bs s).drop j)).isEmpty, n', s, lit (wd ((bs s).drop j)), ((fr s j : Nat) : Int), s, ((fr s j + (wd ((bs s).drop j)).length : Nat) : Int), ())))
    (g : List Span → List Span ⊕ Nat) (hg : ∀ out, g out = goP (lex ((bs s).drop j)) out acc2 .mid) : ∃ e : PE, loop B51_0 P = some e ∧ PartEnd s a0 j0 e g := by
  have hf := fr_le s j hj
  have hb := bh_le s j hj
  obtain ⟨k1, k2, k3, k4⟩ := fr_fix s j hj
  by_cases hw : wd ((bs s).drop j) = []
  · rw [hw] at hB
    have hB' : B51_0 P = some (.inr (.inl (acc2, true, s, lit [], ((fr s j : Nat) : Int), s, ((fr s j : Nat) : Int), ()))) := hB
    refine ⟨_, loop_end hB', .inr ⟨acc2, lit [], fr s j, rfl, hf.2, by omega, hn, hr, by omega, k4, by rw [k2, hw], fun out => ?_⟩⟩
    rw [hg, k3]
  · have he : (wd ((bs s).drop j)).isEmpty = false := by
      cases h : wd ((bs s).drop j) with
      | nil => exact absurd h hw
      | cons c r => rfl
    obtain ⟨l1, l2⟩ := lex_word s j hj hw
    rw [he, Bool.not_false, Bool.not_true, cF] at hB
    have hul : (wd ((bs s).drop j)).length ≤ s.size := by
      have : bh s j = fr s j + (wd ((bs s).drop j)).length := rfl
      omega
    obtain ⟨e, e1, e2⟩ := ih (bh s j) acc2 (wd ((bs s).drop j)) (s.size - fr s j) n' (by omega) hb.2 (by omega) hul hn hr (by omega)
    rw [show s.size - (s.size - fr s j) = fr s j by omega] at e1
    refine ⟨e, loop_step hB e1, ?_⟩
    rcases e2 with ⟨rem, w, x, q1, q2, q3⟩ | ⟨acc', w, k, q1, q2, q3, q4, q5, q6, q7, q8, q9⟩
    · exact .inl ⟨rem, w, x, q1, q2, fun out => by rw [hg, l1]; exact q3 out⟩
    · exact .inr ⟨acc', w, k, q1, q2, by omega, q4, q5, q6, q7, q8, fun out => by rw [hg, l1]; exact q9 out⟩
theorem part_step (s : ByteArray) (hs : s.size ≤ 400000) (hA : AnyOk s) (a0 : Nat) (N j : Nat) (acc : List Span) (u : List UInt8) (p : Nat) (n : Int) (hj : j ≤ s.size) (hp : p ≤ s.size) (hu : u.length ≤ s.size) (hn : Nrm acc) (hr : Rng acc) (hlen : acc.length + 1 + 2 * a0 ≤ 2 * j)
    (ih : ∀ (j' : Nat) (acc' : List Span) (u' : List UInt8) (p' : Nat) (n' : Int), j < j' → j' ≤ s.size → p' ≤ s.size → u'.length ≤ s.size → Nrm acc' → Rng acc' → acc'.length + 1 + 2 * a0 ≤ 2 * j' →
      ∃ e : PE, loop B51_0 (acc', true, n', s, lit u', ((s.size - p' : Nat) : Int), s, (j' : Int), ()) = some e ∧ PartEnd s a0 j' e (fun out => goP (.w u' p' :: lex ((bs s).drop j')) out acc' .mid)) :
    ∃ e : PE, loop B51_0 (acc, true, n, s, lit u, ((s.size - p : Nat) : Int), s, (j : Int), ()) = some e ∧ PartEnd s a0 j e (fun out => goP (.w u p :: lex ((bs s).drop j)) out acc .mid) := by
  have hus : (lit u).size ≤ 1099511627000 := by show u.length ≤ _; omega
  have h79 := F79_is (lit u) hus
  have h80 := F80_is (lit u) hus
  rw [bs_lit] at h79 h80
  have h78 := F78_is s (by omega) hA (lit u) ((s.size - p : Nat) : Int) j hj
  have hB := B51_0_eq acc true n s (lit u) ((s.size - p : Nat) : Int) s (j : Int)
  rw [h79, cT, obs] at hB
  cases hi : itemS u with
  | none =>
    rw [hi] at hB
    refine ⟨_, loop_end hB, .inl ⟨p, lit u, (j : Int), hp, rfl, fun out => ?_⟩⟩
    show goP (.w u p :: lex ((bs s).drop j)) out acc .mid = _
    rw [go_mid, hi]
  | some L =>
    obtain ⟨i1, i2, i3⟩ := item_ok hi
    obtain ⟨f1, f2, f3, _, f5⟩ := andS_says hn i1 hr (by omega) (by omega)
    rw [hi] at hB
    unfold optR at hB
    simp only [Bool.not_true, cF] at hB
    rw [h80, obs, h78, obs] at hB
    simp only at hB
    unfold verR at hB
    cases hv : verP u with
    | none =>
      rw [hv] at hB
      simp only [cF] at hB
      rw [f1, obs] at hB
      exact part_next s hs a0 j j hj (Nat.le_refl _) (andS acc L) f2 f3 (by omega) ih _ _ hB _ (fun out => by show goP (.w u p :: lex ((bs s).drop j)) out acc .mid = _; rw [go_mid, hi, hv])
    | some v =>
      rw [hv] at hB
      simp only [cT] at hB
      have hgo : ∀ out, goP (.w u p :: lex ((bs s).drop j)) out acc .mid = goP (lex ((bs s).drop j)) out acc (.plain v L) := fun out => by rw [go_mid, hi, hv]
      by_cases hw : wd ((bs s).drop j) = [45]
      · rw [hw] at hB
        have e45 : (bl (lit [45]) == [45]) = true := rfl
        rw [show (!([45] : List UInt8).isEmpty) = true from rfl, cT, e45, cT] at hB
        obtain ⟨l1, l2⟩ := lex_word s j hj (by rw [hw]; simp)
        have hb := bh_le s j hj
        have hgo2 : ∀ out, goP (.w u p :: lex ((bs s).drop j)) out acc .mid = goP (lex ((bs s).drop (bh s j))) out acc (.dash v) := fun out => by rw [hgo, l1, go_plain, if_pos hw]
        have hbb : fr s j + ([45] : List UInt8).length = bh s j := by rw [← hw]
        rw [hbb] at hB
        generalize hj2 : bh s j = j2 at *
        have h78b := F78_is s (by omega) hA (lit [45]) ((fr s j : Nat) : Int) j2 hb.2
        rw [h78b, obs] at hB
        simp only at hB
        have hf2 := fr_le s j2 hb.2
        by_cases hw2 : wd ((bs s).drop j2) = []
        · rw [hw2] at hB
          have hB' : B51_0 (acc, true, n, s, lit u, ((s.size - p : Nat) : Int), s, (j : Int), ()) = some (.inr (.inl ([], false, s, lit [], ((fr s j2 : Nat) : Int), s, ((fr s j2 : Nat) : Int), ()))) := hB
          refine ⟨_, loop_end hB', .inl ⟨s.size - fr s j2, lit [], _, Nat.sub_le _ _, by rw [show s.size - (s.size - fr s j2) = fr s j2 by omega], fun out => ?_⟩⟩
          show goP (.w u p :: lex ((bs s).drop j)) out acc .mid = _
          rw [hgo2, stop_dash s j2 hb.2 hw2]
        · have he : (wd ((bs s).drop j2)).isEmpty = false := by
            cases h : wd ((bs s).drop j2) with
            | nil => exact absurd h hw2
            | cons c r => rfl
          rw [he, Bool.not_false, Bool.not_true, cF] at hB
          obtain ⟨m1, m2⟩ := lex_word s j2 hb.2 hw2
          have hb2 := bh_le s j2 hb.2
          have hul : (lit (wd ((bs s).drop j2))).size ≤ 1099511627000 := by
            have : bh s j2 = fr s j2 + (wd ((bs s).drop j2)).length := rfl
            show (wd ((bs s).drop j2)).length ≤ _
            omega
          have h80b := F80_is _ hul
          rw [bs_lit] at h80b
          rw [h80b, obs] at hB
          unfold verR at hB
          cases hv2 : verP (wd ((bs s).drop j2)) with
          | none =>
            rw [hv2] at hB
            refine ⟨_, loop_end hB, .inl ⟨s.size - fr s j2, _, _, Nat.sub_le _ _, by rw [show s.size - (s.size - fr s j2) = fr s j2 by omega], fun out => ?_⟩⟩
            show goP (.w u p :: lex ((bs s).drop j)) out acc .mid = _
            rw [hgo2, m1, go_dash, hv2]
          | some y =>
            rw [hv2] at hB
            simp only [Bool.not_true, cF] at hB
            have hov := (verP_ok hv).1
            have hoy := (verP_ok hv2).1
            have h81 : F81 ((v.1 : Int), (v.2.1 : Int), (v.2.2.1 : Int), lit v.2.2.2, false, false, (y.1 : Int), (y.2.1 : Int), (y.2.2.1 : Int), lit y.2.2.2, true, false, ()) = _ := F81_is (vOf v) (vOf y) false false true false (okP_ver false false true (vOk_V hov) (vOk_V hoy))
            have h78c := F78_is s (by omega) hA (lit (wd ((bs s).drop j2))) ((fr s j2 : Nat) : Int) (bh s j2) hb2.2
            obtain ⟨b1, b2, b3⟩ := btw_ver hov hoy
            obtain ⟨g1, g2, g3, _, g5⟩ := andS_says hn b1 hr (by omega) (by omega)
            rw [h81, obs, h78c, obs] at hB
            simp only at hB
            have g1' : F16 (acc, btw (ptOf (vOf v) false false) (ptOf (vOf y) true false), ()) = _ := g1
            rw [g1', obs] at hB
            exact part_next s hs a0 j (bh s j2) hb2.2 (by omega) _ g2 g3 (by omega) ih _ _ hB _ (fun out => by show goP (.w u p :: lex ((bs s).drop j)) out acc .mid = _; rw [hgo2, m1, go_dash, hv2])
      · have hBB : B51_0 (acc, true, n, s, lit u, ((s.size - p : Nat) : Int), s, (j : Int), ()) = bif !(!(wd ((bs s).drop j)).isEmpty) then some (.inr (.inl (andS acc L, true, s, lit (wd ((bs s).drop j)), ((fr s j : Nat) : Int), s, ((fr s j + (wd ((bs s).drop j)).length : Nat) : Int), ()))) else some (.inl (andS acc L, !(wd ((bs s).drop j)).isEmpty, IntKind.wrap IntKind.i64 (n + Int.ofNat 1), s, lit (wd ((bs s).drop j)), ((fr s j : Nat) : Int), s, ((fr s j + (wd ((bs s).drop j)).length : Nat) : Int), ())) := by
          rw [hB, f1]
          have e45 : (bl (lit (wd ((bs s).drop j))) == [45]) = false := by
            rw [bs_toList, bs_lit]
            simpa using hw
          rw [e45]
          cases (wd ((bs s).drop j)).isEmpty with
          | true => simp only [Bool.not_true, cF, cT, Bool.not_false, obs]
          | false => simp only [Bool.not_true, cF, cT, Bool.not_false, obs]
        exact part_next s hs a0 j j hj (Nat.le_refl _) (andS acc L) f2 f3 (by omega) ih _ _ hBB _ (fun out => by show goP (.w u p :: lex ((bs s).drop j)) out acc .mid = _; rw [hgo, plain_mid s j hj hw])
theorem part_is (s : ByteArray) (hs : s.size ≤ 400000) (hA : AnyOk s) (a0 : Nat) : ∀ (N j : Nat) (acc : List Span) (u : List UInt8) (p : Nat) (n : Int), s.size - j ≤ N → j ≤ s.size → p ≤ s.size → u.length ≤ s.size → Nrm acc → Rng acc → acc.length + 1 + 2 * a0 ≤ 2 * j →
    ∃ e : PE, loop B51_0 (acc, true, n, s, lit u, ((s.size - p : Nat) : Int), s, (j : Int), ()) = some e ∧ PartEnd s a0 j e (fun out => goP (.w u p :: lex ((bs s).drop j)) out acc .mid) := by
  intro N
  induction N with
  | zero =>
    intro j acc u p n hN hj hp hu hn hr hlen
    exact part_step s hs hA a0 0 j acc u p n hj hp hu hn hr hlen (fun j' acc' u' p' n' h1 h2 => by omega)
  | succ N ih =>
    intro j acc u p n hN hj hp hu hn hr hlen
    exact part_step s hs hA a0 (N + 1) j acc u p n hj hp hu hn hr hlen (fun j' acc' u' p' n' h1 h2 h3 h4 h5 h6 h7 => ih j' acc' u' p' n' (by omega) h2 h3 h4 h5 h6 h7)
end Go.Vx.Z
/-! span.Parse, whole. -/
namespace Go.Vx.Z
open Go Go.Vx
set_option linter.unusedVariables false
set_option maxRecDepth 100000
theorem F51_is (s : ByteArray) (hs : s.size ≤ 400000) (hA : AnyOk s) (word : ByteArray) (x2 : Int) (j : Nat) (hj : j ≤ s.size) :
    (∃ rem w x, rem ≤ s.size ∧ F51 (s, word, x2, s, (j : Int), ()) = some ([], false, s, w, ((s.size - rem : Nat) : Int), s, x, ()) ∧ ∀ out, goP (lex ((bs s).drop j)) out allS .start = .inr rem) ∨
    (∃ acc' w k, F51 (s, word, x2, s, (j : Int), ()) = some (acc', true, s, w, ((k : Nat) : Int), s, ((k : Nat) : Int), ()) ∧ k ≤ s.size ∧ j ≤ k ∧ Nrm acc' ∧ Rng acc' ∧ acc'.length + 2 * j ≤ 2 * k + 1 ∧ fr s k = k ∧ wd ((bs s).drop k) = [] ∧ ∀ out, goP (lex ((bs s).drop j)) out allS .start = goP (lex ((bs s).drop k)) out acc' .mid) := by
  have h78 := F78_is s (by omega) hA word x2 j hj
  have hF := F51_eq s word x2 s (j : Int)
  rw [F77_is, obs, h78, obs] at hF
  simp only at hF
  have hb := bh_le s j hj
  have hbd : bh s j = fr s j + (wd ((bs s).drop j)).length := rfl
  by_cases hw : wd ((bs s).drop j) = []
  · left
    rw [hw] at hF
    have hl : loop B51_0 (allS, !([] : List UInt8).isEmpty, Int.ofNat 0, s, lit [], ((fr s j : Nat) : Int), s, ((fr s j + ([] : List UInt8).length : Nat) : Int), ()) = some (.inr (s, lit [], ((fr s j : Nat) : Int), s, ((fr s j + ([] : List UInt8).length : Nat) : Int), ())) := loop_end (by rw [B51_0_eq]; rfl)
    rw [hl, obs, sR] at hF
    refine ⟨s.size - fr s j, lit [], ((fr s j + ([] : List UInt8).length : Nat) : Int), Nat.sub_le _ _, ?_, fun out => stop_start s j hj hw out allS⟩
    rw [show s.size - (s.size - fr s j) = fr s j by omega]
    exact hF
  · have he : (wd ((bs s).drop j)).isEmpty = false := by
      cases h : wd ((bs s).drop j) with
      | nil => exact absurd h hw
      | cons c r => rfl
    obtain ⟨l1, l2⟩ := lex_word s j hj hw
    rw [he, Bool.not_false] at hF
    have hf := fr_le s j hj
    obtain ⟨e, e1, e2⟩ := part_is s hs hA j s.size (bh s j) allS (wd ((bs s).drop j)) (s.size - fr s j) (Int.ofNat 0) (by omega) hb.2 (by omega) (by omega) allS_says.1 allS_says.2.1 (by show 1 + 1 + 2 * j ≤ _; omega)
    rw [show s.size - (s.size - fr s j) = fr s j by omega] at e1
    rw [e1, obs] at hF
    rcases e2 with ⟨rem, w, x, q1, q2, q3⟩ | ⟨acc', w, k, q1, q2, q3, q4, q5, q6, q7, q8, q9⟩
    · left
      rw [q2, sL] at hF
      exact ⟨rem, w, x, q1, hF, fun out => by rw [l1, go_start]; exact q3 out⟩
    · right
      rw [q1, sL] at hF
      exact ⟨acc', w, k, hF, q2, by omega, q4, q5, q6, q7, q8, fun out => by rw [l1, go_start]; exact q9 out⟩
def parR (n : Nat) (r : List Span ⊕ Nat) : List Span × Int × Int × Unit := match r with
  | .inl R => (R, 0, 0, ())
  | .inr rem => ([], ((n - rem : Nat) : Int), 6, ())
def okR' (n : Nat) (r : List Span ⊕ Nat) : Prop := match r with
  | .inl R => Nrm R ∧ Rng R ∧ R.length ≤ 2 * n + 1
  | .inr rem => rem ≤ n
theorem all_step (s : ByteArray) (hs : s.size ≤ 400000) (hA : AnyOk s) (j : Nat) (out : List Span) (w : ByteArray) (x : Int) (hj : j ≤ s.size) (hn : Nrm out) (hr : Rng out) (hlen : out.length ≤ 2 * j)
    (ih : ∀ (j' : Nat) (out' : List Span) (w' : ByteArray) (x' : Int), j < j' → j' ≤ s.size → Nrm out' → Rng out' → out'.length ≤ 2 * j' →
      ∃ r : List Span ⊕ Nat, r = goP (lex ((bs s).drop j')) out' allS .start ∧ okR' s.size r ∧ loop B30_0 (s, out', s, w', x', s, (j' : Int), ()) = some (parR s.size r)) :
    ∃ r : List Span ⊕ Nat, r = goP (lex ((bs s).drop j)) out allS .start ∧ okR' s.size r ∧ loop B30_0 (s, out, s, w, x, s, (j : Int), ()) = some (parR s.size r) := by
  have hB := B30_0_eq s out s w x s (j : Int)
  rcases F51_is s hs hA w x j hj with ⟨rem, w', x', q1, q2, q3⟩ | ⟨acc', w', k, q1, q2, q3, q4, q5, q6, q7, q8, q9⟩
  · rw [q2, obs] at hB
    simp only [Bool.not_false, cT] at hB
    refine ⟨_, rfl, ?_, loop_end ?_⟩
    · rw [q3]; exact q1
    · rw [q3]; exact hB
  · obtain ⟨f1, f2, f3, _, f5⟩ := orS_says hn q4 hr q5 (by omega)
    rw [q1, obs] at hB
    simp only [Bool.not_true, cF] at hB
    rw [f1, obs] at hB
    simp only at hB
    rcases lex_stop s k q2 q8 with ⟨h1, h2⟩ | ⟨h1, h2, h3⟩ | ⟨h1, h2, h3⟩
    · rw [q7] at h2
      rw [show (((k : Nat) : Int) == Int.ofNat s.size) = true by rw [beq_iff_eq]; show _ = (s.size : Int); omega, cT] at hB
      have hgo : goP (lex ((bs s).drop j)) out allS .start = .inl (orS out acc') := by rw [q9, h1]; rfl
      refine ⟨_, rfl, ?_, loop_end ?_⟩
      · rw [hgo]; exact ⟨f2, f3, by omega⟩
      · rw [hgo]; exact hB
    · rw [q7] at h1 h2 h3
      rw [show (((k : Nat) : Int) == Int.ofNat s.size) = false by rw [← Bool.not_eq_true, beq_iff_eq]; show ¬ _ = (s.size : Int); omega, cF] at hB
      have h52 := F52_is s (by omega) (lit [124, 124]) k q2
      rw [bs_lit, decide_eq_false h3, if_neg h3] at h52
      rw [h52, obs] at hB
      have hw : IntKind.wrap IntKind.i64 (((k : Nat) : Int) + Int.ofNat 1) = ((k + 1 : Nat) : Int) := wrap64s k (by omega)
      simp only [Bool.not_false, cT, hw] at hB
      have hgo : goP (lex ((bs s).drop j)) out allS .start = .inr (s.size - k - 1) := by rw [q9, h1]; rfl
      refine ⟨_, rfl, ?_, loop_end ?_⟩
      · rw [hgo]; show s.size - k - 1 ≤ s.size; omega
      · rw [hgo]
        show B30_0 _ = some (Sum.inr ([], ((s.size - (s.size - k - 1) : Nat) : Int), 6, ()))
        rw [show s.size - (s.size - k - 1) = k + 1 by omega]
        exact hB
    · rw [q7] at h1 h2 h3
      rw [show (((k : Nat) : Int) == Int.ofNat s.size) = false by rw [← Bool.not_eq_true, beq_iff_eq]; show ¬ _ = (s.size : Int); omega, cF] at hB
      have h52 := F52_is s (by omega) (lit [124, 124]) k q2
      rw [bs_lit, decide_eq_true h3, if_pos h3] at h52
      have e2 : ((k + (lit [124, 124]).size : Nat) : Int) = ((k + 2 : Nat) : Int) := rfl
      rw [e2] at h52
      rw [h52, obs] at hB
      simp only [Bool.not_true, cF] at hB
      obtain ⟨r, r1, r2, r3⟩ := ih (k + 2) (orS out acc') w' (k : Int) (by omega) h2 f2 f3 (by omega)
      refine ⟨r, ?_, r2, loop_step hB r3⟩
      rw [r1, q9, h1]
      rfl
theorem all_is (s : ByteArray) (hs : s.size ≤ 400000) (hA : AnyOk s) : ∀ (N j : Nat) (out : List Span) (w : ByteArray) (x : Int), s.size - j ≤ N → j ≤ s.size → Nrm out → Rng out → out.length ≤ 2 * j →
    ∃ r : List Span ⊕ Nat, r = goP (lex ((bs s).drop j)) out allS .start ∧ okR' s.size r ∧ loop B30_0 (s, out, s, w, x, s, (j : Int), ()) = some (parR s.size r) := by
  intro N
  induction N with
  | zero =>
    intro j out w x hN hj hn hr hlen
    exact all_step s hs hA j out w x hj hn hr hlen (fun j' out' w' x' h1 h2 => by omega)
  | succ N ih =>
    intro j out w x hN hj hn hr hlen
    exact all_step s hs hA j out w x hj hn hr hlen (fun j' out' w' x' h1 h2 h3 h4 h5 => ih j' out' w' x' (by omega) h2 h3 h4 h5)
theorem F30_is (s : ByteArray) (hs : s.size ≤ 400000) (hA : AnyOk s) : okR' s.size (goP (lex (bs s)) [] allS .start) ∧ F30 (s, ()) = some (parR s.size (goP (lex (bs s)) [] allS .start)) := by
  obtain ⟨r', h1', h2', h3'⟩ := all_is s hs hA s.size 0 [] (lit []) (Int.ofNat 0) (by omega) (Nat.zero_le _) nrm_nil.1 nrm_nil.2 (Nat.zero_le _)
  rw [List.drop_zero] at h1'
  subst h1'
  refine ⟨h2', ?_⟩
  rw [F30_eq, F50_eq, obs]
  have h4 : loop B30_0 (s, [], s, (lit []), Int.ofNat 0, s, Int.ofNat 0, ()) = _ := h3'
  rw [h4, obs]
end Go.Vx.Z
namespace Go.Vx.Z
open Go Go.Vx Go.Proofs
set_option linter.unusedVariables false
set_option maxRecDepth 1000000
set_option maxHeartbeats 4000000
theorem F11_eq (x0 : Int) : F11 (x0, ()) =
  Option.bind (F29 (x0, Int.ofNat 23, ())) fun r => bif decide (Int.ofNat 0 ≤ r.1) then Option.bind [(lit []), (lit [32, 32]), (lit [120]), (lit [118, 49, 46, 48, 46, 48, 32, 124]), (lit [118, 49, 46, 48, 46, 48, 32, 124, 32, 118, 50, 46, 48, 46, 48]), (lit [118, 49, 46, 48, 46, 48, 32, 124, 124]), (lit [124, 124, 32, 118, 49, 46, 48, 46, 48]), (lit [62, 61, 32, 118, 49, 46, 48, 46, 48]), (lit [118, 49, 46, 48, 46, 48, 32, 45, 32]), (lit [118, 49, 46, 48, 46, 48, 32, 45, 32, 120]), (lit [94, 118, 49, 46, 48, 46, 48, 32, 45, 32, 118, 50, 46, 48, 46, 48]), (lit [45, 32, 118, 49, 46, 48, 46, 48]), (lit [118, 49, 46, 48, 46, 48, 32, 45, 118, 50, 46, 48, 46, 48]), (lit [118, 49]), (lit [118, 49, 46, 48]), (lit [118, 49, 46, 48, 46, 48, 45]), (lit [42, 42]), (lit [118, 49, 46, 120, 46, 120]), (lit [118, 120]), (lit [118, 49, 46, 48, 46, 48, 32, 45, 32, 118, 50, 46, 48, 46, 48, 32, 45, 32, 118, 51, 46, 48, 46, 48]), (lit [118, 48, 49, 46, 120]), (lit [118, 49, 48, 48, 48, 48, 48, 48, 46, 120]), (lit [118, 49, 46, 48, 46, 48, 124, 124, 124, 118, 49, 46, 48, 46, 48])][Int.toNat r.1]? fun y => Option.bind (F30 (y, ())) fun r_1 => bif r_1.2.2.1 == Int.ofNat 6 then bif Int.ofNat (List.length r_1.1) == Int.ofNat 0 then bif decide (Int.ofNat 0 ≤ r.1) then Option.bind [Int.ofNat 0, Int.ofNat 2, Int.ofNat 0, Int.ofNat 8, Int.ofNat 8, Int.ofNat 9, Int.ofNat 0, Int.ofNat 0, Int.ofNat 9, Int.ofNat 9, Int.ofNat 8, Int.ofNat 0, Int.ofNat 7, Int.ofNat 0, Int.ofNat 0, Int.ofNat 0, Int.ofNat 0, Int.ofNat 0, Int.ofNat 0, Int.ofNat 16, Int.ofNat 0, Int.ofNat 0, Int.ofNat 8][Int.toNat r.1]? fun y => some (r_1.2.1 == y, ()) else none else some (false, ()) else some (false, ()) else none := by kernel_rfl
end Go.Vx.Z
