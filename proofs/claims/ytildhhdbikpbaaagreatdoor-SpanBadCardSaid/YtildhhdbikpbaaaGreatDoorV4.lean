import Derived.Test.YtildhhdbikpbaaaGreatDoorV3
import Init.Data.List.Sort
import Derived.Shelf.SlSortCmp.NoneTotal
set_option linter.unusedSimpArgs false
/-! What the program's comparisons come to. -/
namespace Go.Vx.Z
open Go Go.Vx
set_option linter.unusedVariables false
theorem F92_is (a b : Int) : F92 (a, b, ()) = some (cmpI a b, ()) := by
  rw [F92_eq, F113_eq, F113_eq]
  simp only [beq_self_eq_true, Bool.not_true, Option.bind_some, cond_false]
  unfold cmpI
  by_cases h1 : a < b
  · simp [h1]
  · by_cases h2 : b < a
    · simp [h1, h2]
    · simp [h1, h2]
theorem F150_is (a b : ByteArray) : F150 (a, b, ()) = some (cmpT (bs a) (bs b), ()) := by
  rw [F150_eq, F171_eq, F171_eq]
  simp only [beq_self_eq_true, Bool.not_true, Option.bind_some, cond_false, bs_toList, bytesLess_eq]
  have r := lin_cmpT.rng (bs a) (bs b)
  by_cases h1 : cmpT (bs a) (bs b) = -1
  · simp [h1]
  · by_cases h2 : bs a = bs b
    · have := (lin_cmpT.eq0 (bs a) (bs b)).2 h2
      simp [h1, h2, this, lin_cmpT.self]
    · have : cmpT (bs a) (bs b) ≠ 0 := fun h => h2 ((lin_cmpT.eq0 _ _).1 h)
      have : cmpT (bs a) (bs b) = 1 := by omega
      have e : (bs a == bs b) = false := by simpa using h2
      simp [this, e]
theorem all_take (l : List UInt8) (i : Nat) (h : i < l.length) : (l.take (i + 1)).all dig1 = ((l.take i).all dig1 && dig1 l[i]) := by
  rw [List.take_succ_eq_append_getElem h, List.all_append]; simp
theorem F149_is (s : ByteArray) (hs : s.size ≤ 1099511627776) : F149 (s, ()) = some (allDig (bs s), ()) := by
  rw [F149_eq]
  have hl := bs_size s
  obtain ⟨e, h1, h2⟩ := loop_inv (B := B149_0) (fun p => ∃ i : Nat, i ≤ s.size ∧ (bs s |>.take i).all dig1 = true ∧ p = (s, Int.ofNat s.size, (i : Int), ())) (fun p => (Int.ofNat s.size - p.2.2.1).toNat)
    (fun e => (e = .inl (false, ()) ∧ (bs s).all dig1 = false) ∨ (e = .inr (s, ()) ∧ (bs s).all dig1 = true)) (by
      rintro p ⟨i, hi, ha, rfl⟩
      rw [B149_0_eq]
      by_cases hlt : i < s.size
      · have e1 : decide ((i : Int) < Int.ofNat s.size) = true := by simp; omega
        have e2 : decide (Int.ofNat 0 ≤ (i : Int)) = true := by simp
        have hb := bt_eq s i hlt
        have hil : i < (bs s).length := by omega
        simp only [e1, e2, Bool.and_self, cond_true]
        rw [hb]
        have hall : ∀ q, q < (bs s).length → dig1 ((bs s)[q]!) = false → (bs s).all dig1 = false := by
          intro q hq hd
          rw [List.all_eq_false]
          refine ⟨(bs s)[q], List.getElem_mem hq, ?_⟩
          rw [getElem!_pos (bs s) q hq] at hd
          simp [hd]
        by_cases h1 : ((bs s)[i].toNat : Int) < Int.ofNat 48
        · have e3 : decide (((bs s)[i].toNat : Int) < Int.ofNat 48) = true := by simp at h1 ⊢; exact h1
          rw [e3]
          refine .inr ⟨_, rfl, .inl ⟨rfl, hall i hil ?_⟩⟩
          rw [getElem!_pos (bs s) i hil]
          have : ¬ 48 ≤ (bs s)[i].toNat := by simp at h1; omega
          simp [dig1, this]
        · have e3 : decide (((bs s)[i].toNat : Int) < Int.ofNat 48) = false := by simp at h1 ⊢; exact h1
          rw [e3]
          simp only [cond_false]
          by_cases h2 : ((bs s)[i].toNat : Int) > Int.ofNat 57
          · have e4 : decide (((bs s)[i].toNat : Int) > Int.ofNat 57) = true := by simp at h2 ⊢; exact h2
            rw [e4]
            refine .inr ⟨_, rfl, .inl ⟨rfl, hall i hil ?_⟩⟩
            rw [getElem!_pos (bs s) i hil]
            have : ¬ (bs s)[i].toNat ≤ 57 := by simp at h2; omega
            simp [dig1, this]
          · have e4 : decide (((bs s)[i].toNat : Int) > Int.ofNat 57) = false := by simp at h2 ⊢; exact h2
            rw [e4]
            have hd : dig1 (bs s)[i] = true := by simp [dig1]; simp at h1 h2; omega
            refine .inl ⟨(s, Int.ofNat s.size, ((i + 1 : Nat) : Int), ()), ?_, ⟨i + 1, by omega, by rw [all_take _ _ hil, ha, hd]; rfl, rfl⟩, ?_⟩
            · simp only [cond_false]
              rw [show IntKind.wrap IntKind.i64 ((i : Int) + Int.ofNat 1) = ((i + 1 : Nat) : Int) from wrap64s i (by omega)]
            · simp; omega
      · have e1 : decide ((i : Int) < Int.ofNat s.size) = false := by simp; omega
        rw [e1]
        refine .inr ⟨_, rfl, .inr ⟨rfl, ?_⟩⟩
        rw [List.take_of_length_le (by omega)] at ha
        exact ha) (s, Int.ofNat s.size, Int.ofNat 0, ()) ⟨0, by omega, by simp, rfl⟩
  rw [h1]
  simp only [Option.bind_some]
  rcases h2 with ⟨rfl, h3⟩ | ⟨rfl, h3⟩
  · simp [allDig, h3]
  · simp only [Sum.elim_inr, allDig, h3, Bool.true_and, bs_toList]
    cases bs s <;> rfl
theorem F66_is (l : List Int) (hl : l.length < 1000) : F66 (l, ()) = some ((l.find? (· != 0)).getD 0, ()) := by
  rw [F66_eq]
  have key : ∀ (k i : Nat), i + k = l.length → loop B66_0 (Int.ofNat 0, l, Int.ofNat l.length, (i : Int), ()) = some (match (l.drop i).find? (· != 0) with | some y => .inl (y, ()) | none => .inr (0, ())) := by
    intro k
    induction k with
    | zero =>
      intro i hi
      refine loop_end ?_
      rw [B66_0_eq]
      have e1 : decide ((i : Int) < Int.ofNat l.length) = false := by simp; omega
      rw [e1, List.drop_of_length_le (by omega)]
      rfl
    | succ k ih =>
      intro i hi
      have e1 : decide ((i : Int) < Int.ofNat l.length) = true := by simp; omega
      have e2 : decide (Int.ofNat 0 ≤ (i : Int)) = true := by simp
      have e3 : l[i]? = some (l[i]'(by omega)) := List.getElem?_eq_getElem _
      have hd : l.drop i = l[i]'(by omega) :: l.drop (i + 1) := List.drop_eq_getElem_cons (by omega)
      by_cases hz : (l[i]'(by omega)) = 0
      · refine loop_step (q := (Int.ofNat 0, l, Int.ofNat l.length, ((i + 1 : Nat) : Int), ())) ?_ ?_
        · rw [B66_0_eq]
          simp only [e1, e2, cond_true, Int.toNat_natCast, e3, Option.bind_some]
          rw [show IntKind.wrap IntKind.i64 ((i : Int) + Int.ofNat 1) = ((i + 1 : Nat) : Int) from wrap64s i (by omega), hz]
          rfl
        · rw [ih (i + 1) (by omega), hd, List.find?_cons]
          simp [hz]
      · refine loop_end ?_
        rw [B66_0_eq]
        simp only [e1, e2, cond_true, Int.toNat_natCast, e3, Option.bind_some]
        rw [hd, List.find?_cons]
        have : ((l[i]'(by omega)) == Int.ofNat 0) = false := by simpa using hz
        have h2 : ((l[i]'(by omega)) != 0) = true := by simpa using hz
        rw [this, h2]
        rfl
  have := key l.length 0 (by omega)
  rw [show (((0 : Nat)) : Int) = Int.ofNat 0 from rfl] at this
  rw [this, List.drop_zero]
  cases l.find? (· != 0) <;> rfl
theorem wordKey_or (a b : List UInt8) : cmpW a b = if allDig a then (if allDig b then orC (cmpI a.length b.length) (cmpT a b) else -1) else (if allDig b then 1 else cmpT a b) := by
  unfold cmpW wordKey
  cases h1 : allDig a <;> cases h2 : allDig b <;> simp [orC, cmpI]
theorem F115_is (a b : ByteArray) (ha : a.size ≤ 1099511627776) (hb : b.size ≤ 1099511627776) : F115 (a, b, ()) = some (cmpW (bs a) (bs b), ()) := by
  have hsa : Int.ofNat a.size = ((bs a).length : Int) := by rw [bs_size]; rfl
  have hsb : Int.ofNat b.size = ((bs b).length : Int) := by rw [bs_size]; rfl
  rw [F115_eq, F149_is a ha, F149_is b hb, wordKey_or, F150_is, F92_is, hsa, hsb]
  simp only [Option.bind_some]
  rw [F66_is _ (by simp)]
  cases h1 : allDig (bs a) <;> cases h2 : allDig (bs b)
  · simp
  · simp
  · simp
  · simp only [cond_true, Option.bind_some, orC, if_true]
    by_cases h : cmpI (bs a).length (bs b).length = 0
    · by_cases h' : cmpT (bs a) (bs b) = 0
      · simp [h, h']
      · simp [h, h']
    · simp [h]
theorem F114_is (xs ys : List ByteArray) (hx : xs.length ≤ 1099511627776) (hxs : ∀ x ∈ xs, x.size ≤ 1099511627776) (hys : ∀ x ∈ ys, x.size ≤ 1099511627776) : F114 (xs, ys, ()) = some (listC cmpW (xs.map bs) (ys.map bs), ()) := by
  rw [F114_eq]
  have key : ∀ (k i : Nat), i + k = xs.length → ∃ e, loop B114_0 (xs, ys, xs, Int.ofNat xs.length, (i : Int), ()) = some e ∧
      Sum.elim (fun (p : Int × Unit) => some (p.1, ())) (fun (p : List ByteArray × List ByteArray × Unit) => bif decide (Int.ofNat (List.length p.1) < Int.ofNat (List.length p.2.1)) then some (Int.negSucc 0, ()) else some (Int.ofNat 0, ())) e = some (listC cmpW ((xs.drop i).map bs) ((ys.drop i).map bs), ()) ∨ ys.length < i := by
    intro k
    induction k with
    | zero =>
      intro i hi
      by_cases hy : ys.length < i
      · exact ⟨.inl (0, ()), .inr hy⟩
      refine ⟨.inr (xs, ys, ()), .inl ⟨loop_end ?_, ?_⟩⟩
      · rw [B114_0_eq]
        have e1 : decide ((i : Int) < Int.ofNat xs.length) = false := by simp; omega
        rw [e1]; rfl
      · rw [List.drop_of_length_le (l := xs) (by omega)]
        simp only [Sum.elim_inr]
        cases hd : ys.drop i with
        | nil =>
          have := List.drop_eq_nil_iff.1 hd
          have e1 : decide (Int.ofNat xs.length < Int.ofNat ys.length) = false := by simp; omega
          rw [e1]; rfl
        | cons y l =>
          have : i < ys.length := by
            rcases Nat.lt_or_ge i ys.length with h | h
            · exact h
            · rw [List.drop_of_length_le h] at hd; cases hd
          have e1 : decide (Int.ofNat xs.length < Int.ofNat ys.length) = true := by simp; omega
          rw [e1]; rfl
    | succ k ih =>
      intro i hi
      by_cases hy : ys.length < i
      · exact ⟨.inl (0, ()), .inr hy⟩
      have hil : i < xs.length := by omega
      have e1 : decide ((i : Int) < Int.ofNat xs.length) = true := by simp; omega
      have e2 : decide (Int.ofNat 0 ≤ (i : Int)) = true := by simp
      have e3 : xs[i]? = some xs[i] := List.getElem?_eq_getElem _
      have hdx : xs.drop i = xs[i] :: xs.drop (i + 1) := List.drop_eq_getElem_cons hil
      by_cases hyi : i < ys.length
      · have e4 : decide ((i : Int) ≥ Int.ofNat ys.length) = false := by simp; omega
        have e5 : ys[i]? = some ys[i] := List.getElem?_eq_getElem _
        have hdy : ys.drop i = ys[i] :: ys.drop (i + 1) := List.drop_eq_getElem_cons hyi
        have hw := F115_is xs[i] ys[i] (hxs _ (List.getElem_mem _)) (hys _ (List.getElem_mem _))
        by_cases hc : cmpW (bs xs[i]) (bs ys[i]) = 0
        · obtain ⟨e, h | h⟩ := ih (i + 1) (by omega)
          · obtain ⟨h1, h2⟩ := h
            refine ⟨e, .inl ⟨loop_step ?_ h1, ?_⟩⟩
            · rw [B114_0_eq]
              simp only [e1, e2, e4, cond_true, cond_false, Int.toNat_natCast, e3, e5, Option.bind_some, hw, hc]
              rw [show IntKind.wrap IntKind.i64 ((i : Int) + Int.ofNat 1) = ((i + 1 : Nat) : Int) from wrap64s i (by omega)]
              rfl
            · rw [h2, hdx, hdy]
              simp only [List.map_cons, listC, orC, hc, if_true]
          · omega
        · refine ⟨.inl (cmpW (bs xs[i]) (bs ys[i]), ()), .inl ⟨loop_end ?_, ?_⟩⟩
          · rw [B114_0_eq]
            have : (cmpW (bs xs[i]) (bs ys[i]) == Int.ofNat 0) = false := by simpa using hc
            simp only [e1, e2, e4, cond_true, cond_false, Int.toNat_natCast, e3, e5, Option.bind_some, hw, this, Bool.not_false]
          · rw [hdx, hdy]
            simp only [List.map_cons, listC, orC, hc, if_false, Sum.elim_inl]
      · have e4 : decide ((i : Int) ≥ Int.ofNat ys.length) = true := by simp; omega
        refine ⟨.inl (1, ()), .inl ⟨loop_end ?_, ?_⟩⟩
        · rw [B114_0_eq]
          simp only [e1, e2, e4, cond_true, Int.toNat_natCast, e3, Option.bind_some]
          rfl
        · rw [hdx, List.drop_of_length_le (l := ys) (by omega)]
          rfl
  obtain ⟨e, h | h⟩ := key xs.length 0 (by omega)
  · obtain ⟨h1, h2⟩ := h
    have h1' : loop B114_0 (xs, ys, xs, Int.ofNat xs.length, Int.ofNat 0, ()) = some e := h1
    rw [h1']
    simp only [Option.bind_some, List.drop_zero] at h2 ⊢
    exact h2
  · omega
theorem splitDot_sizes (s : ByteArray) : ∀ x ∈ splitDot s, x.size ≤ s.size := by
  have key : ∀ l : List UInt8, ∀ w ∈ splitB 46 l, w.length ≤ l.length := by
    intro l
    induction l with
    | nil => intro w hw; simp [splitB] at hw; subst hw; simp
    | cons x l ih =>
      intro w hw
      unfold splitB at hw
      split at hw
      · rcases List.mem_cons.1 hw with rfl | hw
        · simp
        · have := ih w hw; simp; omega
      · split at hw
        · simp at hw; subst hw; simp
        · rename_i v vs hs
          rcases List.mem_cons.1 hw with rfl | hw
          · have := ih v (by rw [hs]; simp); simp; omega
          · have := ih w (by rw [hs]; simp [hw]); simp; omega
  intro x hx
  unfold splitDot at hx
  obtain ⟨w, h1, rfl⟩ := List.mem_map.1 hx
  have := key _ w h1
  rw [bs_size, bs_size s, bs_lit]
  exact this
theorem F93_is (a b : ByteArray) (ha : a.size ≤ 1099511627000) (hb : b.size ≤ 1099511627000) : F93 (a, b, ()) = some (cmpP (bs a) (bs b), ()) := by
  rw [F93_eq]
  simp only [bs_toList]
  unfold cmpP preKey
  by_cases h1 : bs a = bs b
  · simp only [h1, beq_self_eq_true, cond_true]
    simp [orC, cmpI, lin_cmpW.list.self]
  · have e1 : (bs a == bs b) = false := by simpa using h1
    rw [e1]
    simp only [cond_false]
    by_cases h2 : bs a = []
    · have h3 : bs b ≠ [] := fun h => h1 (by rw [h2, h])
      simp [h2, h3, orC, cmpI]
    · have e2 : (bs a == []) = false := by simpa using h2
      rw [e2]
      simp only [cond_false]
      by_cases h3 : bs b = []
      · simp [h2, h3, orC, cmpI]
      · have e3 : (bs b == []) = false := by simpa using h3
        have hd : lit [46] = dot := rfl
        have hla : (splitDot a).length ≤ 1099511627776 := by
          unfold splitDot
          rw [List.length_map, splitB_length]
          have : (bs a).count 46 ≤ (bs a).length := List.count_le_length
          rw [← bs_size] at this
          omega
        rw [e3, hd, F102_dot a (by omega), F102_dot b (by omega)]
        simp only [cond_false, Option.bind_some]
        rw [F114_is _ _ hla (fun x hx => by have := splitDot_sizes a x hx; omega) (fun x hx => by have := splitDot_sizes b x hx; omega)]
        have hm : ∀ s, (splitDot s).map bs = splitB 46 (bs s) := fun s => by
          unfold splitDot
          rw [List.map_map]
          have : (bs ∘ lit) = id := by funext x; rfl
          rw [this, List.map_id]
        simp [h2, h3, orC, cmpI, hm]
theorem or4 (c1 c2 c3 c4 : Int) : (([c1, c2, c3, c4].find? (· != 0)).getD 0) = orC c1 (orC c2 (orC c3 c4)) := by
  unfold orC
  by_cases h1 : c1 = 0
  · by_cases h2 : c2 = 0
    · by_cases h3 : c3 = 0
      · by_cases h4 : c4 = 0 <;> simp [h1, h2, h3, h4]
      · simp [h1, h2, h3]
    · simp [h1, h2]
  · simp [h1]
def okV (v : Ver) : Bool := decide (v.2.2.2.1.size ≤ 1099511627000)
theorem F67_is (a b : Ver) (ha : okV a = true) (hb : okV b = true) : F67 (a.1, a.2.1, a.2.2.1, a.2.2.2.1, b.1, b.2.1, b.2.2.1, b.2.2.2.1, ()) = some (cmpV a b, ()) := by
  rw [F67_eq, F92_is, F92_is, F92_is, F93_is _ _ (by simpa [okV] using ha) (by simpa [okV] using hb)]
  simp only [Option.bind_some]
  rw [F66_is _ (by simp)]
  simp only [Option.bind_some, cmpV, verKey, or4]
end Go.Vx.Z
/-! Pieces of a line: lists of pieces, put in order. -/
namespace Go.Vx.Pc
set_option linter.unusedVariables false
def mem {α : Type} [LE α] [LT α] (l : List (α × α)) (x : α) : Prop := ∃ p ∈ l, p.1 ≤ x ∧ x < p.2
def Nm {α : Type} [LT α] (l : List (α × α)) : Prop := l.Pairwise (fun p q => p.2 < q.1) ∧ ∀ p ∈ l, p.1 < p.2
theorem mem_nil {α : Type} [LE α] [LT α] [Std.LawfulOrderLT α] [Std.IsLinearOrder α] (x : α) : ¬ mem [] x := by simp [mem]
theorem mem_cons {α : Type} [LE α] [LT α] [Std.LawfulOrderLT α] [Std.IsLinearOrder α] {p : α × α} {l : List (α × α)} {x : α} : mem (p :: l) x ↔ (p.1 ≤ x ∧ x < p.2) ∨ mem l x := by simp [mem]
theorem mem_append {α : Type} [LE α] [LT α] [Std.LawfulOrderLT α] [Std.IsLinearOrder α] {a b : List (α × α)} {x : α} : mem (a ++ b) x ↔ mem a x ∨ mem b x := by
  induction a with
  | nil => simp [mem_nil]
  | cons p a ih => rw [List.cons_append, mem_cons, mem_cons, ih, or_assoc]
theorem mem_perm {α : Type} [LE α] [LT α] [Std.LawfulOrderLT α] [Std.IsLinearOrder α] {a b : List (α × α)} (h : a.Perm b) (x : α) : mem a x ↔ mem b x :=
  ⟨fun ⟨p, h1, h2⟩ => ⟨p, h.mem_iff.1 h1, h2⟩, fun ⟨p, h1, h2⟩ => ⟨p, h.mem_iff.2 h1, h2⟩⟩
theorem nm_cons {α : Type} [LE α] [LT α] [Std.LawfulOrderLT α] [Std.IsLinearOrder α] {p : α × α} {l : List (α × α)} : Nm (p :: l) ↔ p.1 < p.2 ∧ (∀ q ∈ l, p.2 < q.1) ∧ Nm l := by
  simp only [Nm, List.pairwise_cons, List.mem_cons, forall_eq_or_imp]
  constructor
  · rintro ⟨⟨h1, h2⟩, h3, h4⟩; exact ⟨h3, h1, h2, h4⟩
  · rintro ⟨h3, h1, h2, h4⟩; exact ⟨⟨h1, h2⟩, h3, h4⟩
theorem nm_head {α : Type} [LE α] [LT α] [Std.LawfulOrderLT α] [Std.IsLinearOrder α] {p : α × α} {l : List (α × α)} (h : Nm (p :: l)) : mem (p :: l) p.1 := by
  have := (nm_cons.1 h).1
  exact mem_cons.2 (.inl ⟨by grind, this⟩)
theorem nm_least {α : Type} [LE α] [LT α] [Std.LawfulOrderLT α] [Std.IsLinearOrder α] {p : α × α} {l : List (α × α)} (h : Nm (p :: l)) {x : α} (hx : mem (p :: l) x) : p.1 ≤ x := by
  obtain ⟨h1, h2, h3⟩ := nm_cons.1 h
  rcases mem_cons.1 hx with h4 | ⟨q, h4, h5, h6⟩
  · exact h4.1
  · have := h2 q h4; grind
theorem nm_tail {α : Type} [LE α] [LT α] [Std.LawfulOrderLT α] [Std.IsLinearOrder α] {p : α × α} {l : List (α × α)} (h : Nm (p :: l)) {x : α} (hx : mem l x) : p.2 < x := by
  obtain ⟨h1, h2, h3⟩ := nm_cons.1 h
  obtain ⟨q, h4, h5, h6⟩ := hx
  have := h2 q h4; grind
theorem uniq {α : Type} [LE α] [LT α] [Std.LawfulOrderLT α] [Std.IsLinearOrder α] : ∀ {l l' : List (α × α)}, Nm l → Nm l' → (∀ x, mem l x ↔ mem l' x) → l = l'
  | [], [], _, _, _ => rfl
  | [], p :: l, _, h', h => absurd ((h p.1).2 (nm_head h')) (mem_nil _)
  | p :: l, [], h', _, h => absurd ((h p.1).1 (nm_head h')) (mem_nil _)
  | p :: l, q :: l', h1, h2, h => by
    have a1 : p.1 = q.1 := by
      have e1 := nm_least h2 ((h p.1).1 (nm_head h1))
      have e2 := nm_least h1 ((h q.1).2 (nm_head h2))
      grind
    have n1 := nm_cons.1 h1
    have n2 := nm_cons.1 h2
    have key : ∀ {p q : α × α} {l l' : List (α × α)}, Nm (p :: l) → p.1 = q.1 → q.1 < q.2 → (∀ x, mem (p :: l) x ↔ mem (q :: l') x) → ¬ p.2 < q.2 := by
      intro p q l l' h1 a1 hq h hlt
      have n1 := nm_cons.1 h1
      have : mem (q :: l') p.2 := mem_cons.2 (.inl ⟨by grind, hlt⟩)
      rcases mem_cons.1 ((h p.2).2 this) with h4 | h4
      · grind
      · have := nm_tail h1 h4; grind
    have a2 : p.2 = q.2 := by
      have e1 := key h1 a1 n2.1 h
      have e2 := key h2 a1.symm n1.1 (fun x => (h x).symm)
      grind
    have hp : p = q := Prod.ext a1 a2
    subst hp
    congr 1
    refine uniq n1.2.2 n2.2.2 fun x => ⟨fun hx => ?_, fun hx => ?_⟩
    · rcases mem_cons.1 ((h x).1 (mem_cons.2 (.inr hx))) with h4 | h4
      · have := nm_tail h1 hx; grind
      · exact h4
    · rcases mem_cons.1 ((h x).2 (mem_cons.2 (.inr hx))) with h4 | h4
      · have := nm_tail h2 hx; grind
      · exact h4
def mrg {α : Type} [LE α] [LT α] [DecidableLE α] [DecidableLT α] (acc : List (α × α)) (p : α × α) : List (α × α) :=
  match acc.getLast? with
  | none => [p]
  | some q => if p.1 ≤ q.2 then (if q.2 < p.2 then acc.dropLast ++ [(q.1, p.2)] else acc) else acc ++ [p]
theorem nm_append {α : Type} [LE α] [LT α] [Std.LawfulOrderLT α] [Std.IsLinearOrder α] {a : List (α × α)} {q : α × α} : Nm (a ++ [q]) ↔ Nm a ∧ q.1 < q.2 ∧ ∀ r ∈ a, r.2 < q.1 := by
  simp only [Nm, List.pairwise_append, List.mem_append, List.mem_singleton, List.pairwise_cons, List.not_mem_nil, false_imp_iff, implies_true, List.Pairwise.nil, and_true, true_and, forall_eq]
  constructor
  · rintro ⟨⟨h1, h2⟩, h3⟩
    exact ⟨⟨h1, fun p hp => h3 p (.inl hp)⟩, h3 q (.inr rfl), h2⟩
  · rintro ⟨⟨h1, h4⟩, h2, h3⟩
    refine ⟨⟨h1, h3⟩, fun p hp => ?_⟩
    rcases hp with hp | rfl
    · exact h4 p hp
    · exact h2
theorem mrg_ok {α : Type} [LE α] [LT α] [Std.LawfulOrderLT α] [Std.IsLinearOrder α] [DecidableLE α] [DecidableLT α] {acc : List (α × α)} {p : α × α} (hn : Nm acc) (hp : p.1 < p.2) (hs : ∀ q ∈ acc, q.1 ≤ p.1) :
    Nm (mrg acc p) ∧ (∀ x, mem (mrg acc p) x ↔ mem acc x ∨ (p.1 ≤ x ∧ x < p.2)) ∧ ∀ q ∈ mrg acc p, q.1 ≤ p.1 := by
  unfold mrg
  rcases List.eq_nil_or_concat acc with rfl | ⟨a, q, rfl⟩
  · refine ⟨nm_cons.2 ⟨hp, by simp, by simp [Nm]⟩, fun x => by simp [mem_cons, mem_nil], by grind⟩
  · rw [List.concat_eq_append] at *
    obtain ⟨n1, n2, n3⟩ := nm_append.1 hn
    have hq := hs q (by simp)
    simp only [List.getLast?_append, List.getLast?_singleton, Option.some_or, List.dropLast_concat]
    by_cases h1 : p.1 ≤ q.2
    · rw [if_pos h1]
      by_cases h2 : q.2 < p.2
      · rw [if_pos h2]
        refine ⟨nm_append.2 ⟨n1, by grind, n3⟩, fun x => ?_, fun r hr => ?_⟩
        · rw [mem_append, mem_append, mem_cons, mem_cons]
          have := mem_nil x
          constructor
          · rintro (h | h | h)
            · exact .inl (.inl h)
            · by_cases h3 : x < q.2
              · exact .inl (.inr (.inl ⟨h.1, h3⟩))
              · exact .inr (by grind)
            · exact absurd h this
          · rintro ((h | h | h) | h)
            · exact .inl h
            · exact .inr (.inl (by grind))
            · exact absurd h this
            · exact .inr (.inl (by grind))
        · rcases List.mem_append.1 hr with h | h
          · exact hs r (by simp [h])
          · simp only [List.mem_singleton] at h; subst h; exact hq
      · rw [if_neg h2]
        refine ⟨hn, fun x => ⟨.inl, ?_⟩, hs⟩
        rintro (h | h)
        · exact h
        · exact mem_append.2 (.inr (mem_cons.2 (.inl (by grind))))
    · rw [if_neg h1]
      refine ⟨nm_append.2 ⟨hn, hp, fun r hr => ?_⟩, fun x => ?_, fun r hr => ?_⟩
      · rcases List.mem_append.1 hr with h | h
        · have := n3 r h; grind
        · simp only [List.mem_singleton] at h; subst h; grind
      · rw [mem_append, mem_cons]
        simp [mem_nil]
      · rcases List.mem_append.1 hr with h | h
        · exact hs r h
        · simp only [List.mem_singleton] at h; subst h; grind
theorem fold_ok {α : Type} [LE α] [LT α] [Std.LawfulOrderLT α] [Std.IsLinearOrder α] [DecidableLE α] [DecidableLT α] : ∀ (s acc : List (α × α)), Nm acc → (∀ p ∈ s, p.1 < p.2) → s.Pairwise (fun p q => p.1 ≤ q.1) → (∀ q ∈ acc, ∀ p ∈ s, q.1 ≤ p.1) →
    Nm (s.foldl mrg acc) ∧ ∀ x, mem (s.foldl mrg acc) x ↔ mem acc x ∨ mem s x
  | [], acc, hn, _, _, _ => ⟨hn, fun x => by simp [mem_nil]⟩
  | p :: s, acc, hn, hp, hs, ha => by
    obtain ⟨s1, s2⟩ := List.pairwise_cons.1 hs
    obtain ⟨m1, m2, m3⟩ := mrg_ok hn (hp p (by simp)) (fun q hq => ha q hq p (by simp))
    obtain ⟨r1, r2⟩ := fold_ok s (mrg acc p) m1 (fun q hq => hp q (by simp [hq])) s2 fun q hq r hr => by
      have e1 := m3 q hq
      have e2 := s1 r hr
      grind
    refine ⟨r1, fun x => ?_⟩
    rw [List.foldl_cons, r2, m2, mem_cons, or_assoc]
def full {α : Type} [LT α] [DecidableLT α] (p : α × α) : Bool := decide (p.1 < p.2)
def nf {α : Type} [LE α] [LT α] [DecidableLE α] [DecidableLT α] (l : List (α × α)) : List (α × α) := ((l.filter full).mergeSort fun p q => decide (p.1 ≤ q.1)).foldl mrg []
theorem mem_full {α : Type} [LE α] [LT α] [Std.LawfulOrderLT α] [Std.IsLinearOrder α] [DecidableLE α] [DecidableLT α] (l : List (α × α)) (x : α) : mem (l.filter full) x ↔ mem l x := by
  constructor
  · rintro ⟨p, h1, h2⟩
    exact ⟨p, (List.mem_filter.1 h1).1, h2⟩
  · rintro ⟨p, h1, h2, h3⟩
    exact ⟨p, List.mem_filter.2 ⟨h1, by simp only [full, decide_eq_true_eq]; grind⟩, h2, h3⟩
theorem sorted_ok {α : Type} [LE α] [LT α] [Std.LawfulOrderLT α] [Std.IsLinearOrder α] [DecidableLE α] [DecidableLT α] {l s : List (α × α)} (hp : s.Perm (l.filter full)) (hs : s.Pairwise fun p q => p.1 ≤ q.1) : Nm (s.foldl mrg []) ∧ ∀ x, mem (s.foldl mrg []) x ↔ mem l x := by
  obtain ⟨h1, h2⟩ := fold_ok s [] (by simp [Nm]) (fun p h => by
    have := (List.mem_filter.1 (hp.mem_iff.1 h)).2
    simpa [full] using this) hs (by simp)
  refine ⟨h1, fun x => ?_⟩
  rw [h2, mem_perm hp, mem_full]
  simp [mem_nil]
theorem nf_ok {α : Type} [LE α] [LT α] [Std.LawfulOrderLT α] [Std.IsLinearOrder α] [DecidableLE α] [DecidableLT α] (l : List (α × α)) : Nm (nf l) ∧ ∀ x, mem (nf l) x ↔ mem l x := by
  refine sorted_ok (List.mergeSort_perm _ _) ?_
  have := List.pairwise_mergeSort (le := fun p q : α × α => decide (p.1 ≤ q.1)) (fun a b c h1 h2 => by simp only [decide_eq_true_eq] at *; grind) (fun a b => by simp only [Bool.or_eq_true, decide_eq_true_eq]; grind) (l.filter full)
  exact this.imp fun h => by simpa using h
theorem sorted_nf {α : Type} [LE α] [LT α] [Std.LawfulOrderLT α] [Std.IsLinearOrder α] [DecidableLE α] [DecidableLT α] {l s : List (α × α)} (hp : s.Perm (l.filter full)) (hs : s.Pairwise fun p q => p.1 ≤ q.1) : s.foldl mrg [] = nf l := by
  obtain ⟨h1, h2⟩ := sorted_ok hp hs
  obtain ⟨h3, h4⟩ := nf_ok l
  exact uniq h1 h3 fun x => by rw [h2, h4]
/-! Both, none. -/
def meet {α : Type} [LT α] [DecidableLT α] (p q : α × α) : α × α := (if p.1 < q.1 then q.1 else p.1, if q.2 < p.2 then q.2 else p.2)
def meets {α : Type} [LT α] [DecidableLT α] (a b : List (α × α)) : List (α × α) := a.flatMap fun p => b.map (meet p)
theorem mem_meets {α : Type} [LE α] [LT α] [Std.LawfulOrderLT α] [Std.IsLinearOrder α] [DecidableLE α] [DecidableLT α] {a b : List (α × α)} {x : α} : mem (meets a b) x ↔ mem a x ∧ mem b x := by
  constructor
  · rintro ⟨r, h1, h2, h3⟩
    obtain ⟨p, hp, h1⟩ := List.mem_flatMap.1 h1
    obtain ⟨q, hq, rfl⟩ := List.mem_map.1 h1
    unfold meet at h2 h3
    exact ⟨⟨p, hp, by grind⟩, ⟨q, hq, by grind⟩⟩
  · rintro ⟨⟨p, hp, h1⟩, ⟨q, hq, h2⟩⟩
    refine ⟨meet p q, List.mem_flatMap.2 ⟨p, hp, List.mem_map.2 ⟨q, hq, rfl⟩⟩, ?_⟩
    unfold meet
    grind
def gaps {α : Type} : α → List (α × α) → α → List (α × α)
  | at_, [], top => [(at_, top)]
  | at_, p :: l, top => (at_, p.1) :: gaps p.2 l top
theorem mem_gaps {α : Type} [LE α] [LT α] [Std.LawfulOrderLT α] [Std.IsLinearOrder α] {top : α} : ∀ {l : List (α × α)} {at_ : α}, Nm l → (∀ p ∈ l, at_ ≤ p.1 ∧ p.2 ≤ top) → ∀ x, mem (gaps at_ l top) x ↔ at_ ≤ x ∧ x < top ∧ ¬ mem l x
  | [], at_, _, _, x => by
    have := mem_nil x
    simp only [gaps, mem_cons]
    grind
  | p :: l, at_, hn, hb, x => by
    obtain ⟨n1, n2, n3⟩ := nm_cons.1 hn
    have b1 := hb p (by simp)
    have ih := mem_gaps (top := top) (l := l) (at_ := p.2) n3 (fun q hq => ⟨by have := n2 q hq; grind, (hb q (by simp [hq])).2⟩) x
    rw [gaps, mem_cons, mem_cons, ih]
    by_cases h : mem l x
    · have := nm_tail hn h
      grind
    · grind
end Go.Vx.Pc
/-! Places between versions. -/
namespace Go.Vx
open Go Go.Proofs
set_option linter.unusedVariables false
structure Pt where
  e : Int
  v : Ver
  b : Int
def Pt.key (p : Pt) : Int × Ver × Int := (p.e, p.v, p.b)
def Pt.c (p q : Pt) : Int := (fun (x y : Int × Ver × Int) => orC (cmpI x.1 y.1) (orC (cmpV x.2.1 y.2.1) (cmpI x.2.2 y.2.2))) p.key q.key
theorem lin_pt : Lin Pt.c := (lin_cmpI.prod (lin_cmpV.prod lin_cmpI)).pull Pt.key fun x y h => by
  cases x; cases y
  simp only [Pt.key, Prod.mk.injEq] at h
  obtain ⟨h1, h2, h3⟩ := h
  rw [h1, h2, h3]
theorem Lin.lt_trans {α : Type} {c : α → α → Int} (h : Lin c) {x y z : α} (h1 : c x y ≤ 0) (h2 : c y z ≤ 0) : c x z ≤ 0 := by
  rcases h.rng x y with e | e | e
  · rcases h.rng y z with f | f | f
    · rw [h.trans x y z e f]; omega
    · rw [← (h.eq0 y z).1 f]; omega
    · omega
  · rw [(h.eq0 x y).1 e]; exact h2
  · omega
instance : LE Pt := ⟨fun a b => a.c b ≤ 0⟩
instance : LT Pt := ⟨fun a b => a.c b < 0⟩
theorem pt_le {a b : Pt} : a ≤ b ↔ a.c b ≤ 0 := Iff.rfl
theorem pt_lt {a b : Pt} : a < b ↔ a.c b < 0 := Iff.rfl
instance : DecidableLE Pt := fun a b => inferInstanceAs (Decidable (a.c b ≤ 0))
instance : DecidableLT Pt := fun a b => inferInstanceAs (Decidable (a.c b < 0))
instance : Std.IsLinearOrder Pt where
  le_refl a := by rw [pt_le, lin_pt.self]; omega
  le_trans a b c := fun h1 h2 => lin_pt.lt_trans h1 h2
  le_antisymm a b := fun h1 h2 => by
    rw [pt_le] at *
    rw [lin_pt.anti a b] at h2
    exact (lin_pt.eq0 a b).1 (by omega)
  le_total a b := by
    rw [pt_le, pt_le, lin_pt.anti a b]; omega
instance : Std.LawfulOrderLT Pt where
  lt_iff a b := by rw [pt_lt, pt_le, pt_le, lin_pt.anti a b]; omega
namespace Z
def v0 : Ver := (0, 0, 0, lit [], ())
def ptOf (v : Ver) (b e : Bool) : Pt := if e then ⟨1, v0, 0⟩ else ⟨0, v, if b then 1 else 0⟩
abbrev Piece := Int × Int × Int × ByteArray × Bool × Bool × Int × Int × Int × ByteArray × Bool × Bool × Unit
abbrev Span := Int × Int × Int × ByteArray × Int × Int × Int × ByteArray × Bool × Bool × Bool × Unit
def Piece.fv (p : Piece) : Ver := (p.1, p.2.1, p.2.2.1, p.2.2.2.1, ())
def Piece.tv (p : Piece) : Ver := (p.2.2.2.2.2.2.1, p.2.2.2.2.2.2.2.1, p.2.2.2.2.2.2.2.2.1, p.2.2.2.2.2.2.2.2.2.1, ())
def Piece.fb (p : Piece) : Bool := p.2.2.2.2.1
def Piece.fe (p : Piece) : Bool := p.2.2.2.2.2.1
def Piece.tb (p : Piece) : Bool := p.2.2.2.2.2.2.2.2.2.2.1
def Piece.te (p : Piece) : Bool := p.2.2.2.2.2.2.2.2.2.2.2.1
def Piece.fp (p : Piece) : Pt := ptOf p.fv p.fb p.fe
def Piece.tp (p : Piece) : Pt := ptOf p.tv p.tb p.te
def Piece.pp (p : Piece) : Pt × Pt := (p.fp, p.tp)
def okPc (p : Piece) : Bool := okV p.fv && okV p.tv
theorem F65_is (b : Bool) : F65 (b, ()) = some ((if b then 1 else 0), ()) := by cases b <;> rfl
theorem or2 (a b : Int) : F66 ([a, b], ()) = some (orC a b, ()) := by
  rw [F66_is _ (by simp)]
  congr 2
  simp only [List.find?_cons, List.find?_nil, orC]
  by_cases h1 : a = 0
  · subst h1
    by_cases h2 : b = 0
    · subst h2; rfl
    · have : (b != 0) = true := by simpa using h2
      simp [this]
  · have : (a != 0) = true := by simpa using h1
    simp [this, h1]
theorem sub_cmp (a b : Bool) : IntKind.wrap IntKind.i64 ((if a then (1 : Int) else 0) - (if b then 1 else 0)) = cmpI (if a then 1 else 0) (if b then 1 else 0) := by
  cases a <;> cases b <;> decide
theorem F40_is (u v : Ver) (a b c d : Bool) (hu : okV u = true) (hv : okV v = true) : F40 (u.1, u.2.1, u.2.2.1, u.2.2.2.1, a, b, v.1, v.2.1, v.2.2.1, v.2.2.2.1, c, d, ()) = some ((ptOf u a b).c (ptOf v c d), ()) := by
  rw [F40_eq]
  simp only [F65_is, Option.bind_some, sub_cmp]
  cases b with
  | true =>
    simp only [cond_true, ptOf, if_true]
    cases d with
    | true => simp only [if_true, lin_pt.self, lin_cmpI.self]
    | false =>
      simp only [Bool.false_eq_true, if_false, Pt.c, Pt.key]
      congr 1
  | false =>
    cases d with
    | true =>
      simp only [cond_true, cond_false, ptOf, if_true, Bool.false_eq_true, if_false, Pt.c, Pt.key]
      congr 1
    | false =>
      simp only [cond_false, ptOf, Bool.false_eq_true, if_false, Pt.c, Pt.key]
      rw [F67_is u v hu hv, Option.bind_some, or2, Option.bind_some]
      have : cmpI 0 0 = 0 := by decide
      rw [this]
      simp only [orC, if_true]
def cmpPc (p q : Piece) : Int := p.fp.c q.fp
theorem F71_is (p q : Piece) (hp : okPc p = true) (hq : okPc q = true) : F71 (toP r8 p (toP r8 q ())) = some (cmpPc p q, ()) := by
  simp only [okPc, Bool.and_eq_true] at hp hq
  show F71 (p.1, p.2.1, p.2.2.1, p.2.2.2.1, p.2.2.2.2.1, p.2.2.2.2.2.1, p.2.2.2.2.2.2.1, p.2.2.2.2.2.2.2.1, p.2.2.2.2.2.2.2.2.1, p.2.2.2.2.2.2.2.2.2.1, p.2.2.2.2.2.2.2.2.2.2.1, p.2.2.2.2.2.2.2.2.2.2.2.1, q.1, q.2.1, q.2.2.1, q.2.2.2.1, q.2.2.2.2.1, q.2.2.2.2.2.1, q.2.2.2.2.2.2.1, q.2.2.2.2.2.2.2.1, q.2.2.2.2.2.2.2.2.1, q.2.2.2.2.2.2.2.2.2.1, q.2.2.2.2.2.2.2.2.2.2.1, q.2.2.2.2.2.2.2.2.2.2.2.1, ()) = _
  rw [F71_eq]
  have := F40_is p.fv q.fv p.fb p.fe q.fb q.fe hp.1 hq.1
  simp only [Piece.fv, Piece.fb, Piece.fe] at this
  rw [this]
  rfl
theorem swo_pc : Sort.SWO (ltOf cmpPc) := swo_at lin_pt.swo Piece.fp
end Z
end Go.Vx
/-! slices.SortFunc over a part of an own list. -/
namespace Go.Vx
open Go Go.RowKit Go.Proofs Go.Shelf Go.Sort
set_option linter.unusedVariables false
set_option linter.unusedSimpArgs false
@[reducible] def shSortP (e : Nat) (r : Ty) (g : Nat) : Shape := ⟨[(0, .one (.os 100000 r.width)), (1, .one (.fn g))], [(100000, .lst e r false)]⟩
def FSortP (r : Ty) (e g : Nat) (ok : r.D → Bool) (cf : r.D → r.D → Int) : (shSortP e r g).D → Option (outSort e r).D := fun p =>
  bif Nat.beq p.1 0 && (Nat.ble p.2.1 p.2.2.1.length && ((p.2.2.1.take p.2.1).all ok && decide ((p.2.2.1.take p.2.1).length < 4611686018427387904))) then some (sortBy cf (p.2.2.1.take p.2.1) ++ p.2.2.1.drop p.2.1, ()) else none
section
variable {P : Program} {ρ : Shelf.Ren}
theorem sort_part_ok (L : SlLaysF0.n6 P ρ) (none_ok : ∀ (p : Option Addr) (cap : Nat) (fv : Value) (w : World), Calls P (ρ.f 6) #[.slice p 0 cap, fv] w fun e w' => e = .returned (.tuple #[]) ∧ w' = w)
    (ents : ∀ args w, (callFunc (ρ.f 6) args).run P w = .ok (.enter (ρ.f 6) args) w)
    {r : Ty} {e g : Nat} (aE : ∀ w, (Go.isAgg (ρ.t 24)).run P w = .ok true w) (zE : ∀ w, (Go.sizeOf (ρ.t 24)).run P w = .ok r.width w)
    {Fc : (shCmp r).D → Option outI.D} (hc : FEOK P ⟨g, shCmp r, outI, Fc⟩) (eg : ∀ args w, (callFunc g args).run P w = .ok (.enter g args) w)
    (cf : r.D → r.D → Int) (ok : r.D → Bool) (hcf : ∀ x y, ok x = true → ok y = true → Fc (toP r x (toP r y ())) = some (cf x y, ())) (hO : SWO (ltOf cf)) :
    FEOK P ⟨ρ.f 6, shSortP e r g, outSort e r, FSortP r e g ok cf⟩ := by
  intro p res hF gh w args hsz hH hargs hgd
  obtain ⟨lo, hi, zs, u⟩ := p
  unfold FSortP at hF
  simp only at hF
  cases hcond : (Nat.beq lo 0 && (Nat.ble hi zs.length && ((zs.take hi).all ok && decide ((zs.take hi).length < 4611686018427387904)))) with
  | false => rw [hcond] at hF; cases hF
  | true =>
  rw [hcond] at hF
  simp only [cond_true, Option.some.injEq] at hF
  subst hF
  rw [Bool.and_eq_true, Bool.and_eq_true, Bool.and_eq_true, decide_eq_true_eq, List.all_eq_true] at hcond
  obtain ⟨hlo, hhi, hok, hlen⟩ := hcond
  obtain rfl : lo = 0 := Nat.eq_of_beq_eq_true hlo
  have hhi : hi ≤ zs.length := Nat.le_of_ble_eq_true hhi
  have hm : (embed (shSortP e r g) (0, hi, zs, u)).blk 100000 = some (.lst e r zs false) := rfl
  obtain ⟨h1a, _, a0, n0, c0, pa, pc, hval, hin, h1b, hcap, _, hsome⟩ : RepC gh (embed (shSortP e r g) (0, hi, zs, u)).blk w (.os 100000 0 hi r.width) (args.getD 0 undef) := hargs 0
  have h2 : args.getD 1 undef = .func (.func g) #[] #[] := hargs 1
  have hargs2 : args = #[.slice pa (hi - 0) pc, .func (.func g) #[] #[]] := by
    have hsz : args.size = 2 := hsz
    apply Array.ext
    · simpa using hsz
    · intro i q1 q2
      simp at q2
      match i, q2 with
      | 0, _ => simpa [Array.getD, q1] using h1b
      | 1, _ => simpa [Array.getD, q1] using h2
  obtain ⟨vs0, hown, hvs0, hw0, _⟩ := hH.blk 100000 _ hm
  refine .inr ⟨ents _ _, ?_⟩
  rw [hargs2]
  -- the end, from a world that holds the new row
  have fin : ∀ (w' : World) (ys : List r.D) (vs' : List Value) (gb : Nat), gh.blk 100000 = some gb → w.grownBy w' (some gb) → w.drawn ≤ w'.drawn → w'.ownsRow 0 e r.width (gh.val 100000) ys.length vs' → RepCs gh (embed (shSortP e r g) (0, hi, zs, u)).blk w (rowsCells r ys) vs' →
      Ret (outSort e r) (ys, ()) gh (embed (shSortP e r g) (0, hi, zs, u)).blk w (.tuple #[]) w' := by
    intro w' ys vs' gb hgb hG hdr ho hr
    have hput := heap_put hH hm rfl (b' := .lst e r ys false) rfl hgb (fun x h => by obtain ⟨h, _⟩ := h; cases h) hdr hG (fun hc hext => by
      exact ⟨vs', ho, repCs_mono (g := gh) (g' := gh) (m := (embed (shSortP e r g) (0, hi, zs, u)).blk) (fun _ h => h) hc hext hr, hw0, fun hf => by cases hf⟩)
    obtain ⟨hH2, hT2, _⟩ := hput
    have hme : upd (embed (shSortP e r g) (0, hi, zs, u)).blk 100000 (.lst e r ys false) = (embed (outSort e r) (ys, ())).blk := by
      funext i
      show (bif Nat.beq 100000 i then some _ else lookM i _) = lookM i _
      simp only [embed, emMem, emBlk, lookM]
      cases Nat.beq 100000 i <;> rfl
    rw [hme] at hH2 hT2
    exact ⟨gh, hH2, hT2, ⟨#[], rfl, .nil⟩⟩
  rw [show hi - 0 = hi from Nat.sub_zero hi] at *
  by_cases hz : hi = 0
  · subst hz
    refine Calls.mono (none_ok _ pc _ w) fun ev w' ⟨he, hw⟩ => ⟨_, he, ?_⟩
    subst hw
    have hme : (embed (shSortP e r g) (0, 0, zs, u)).blk = (embed (outSort e r) (sortBy cf (zs.take 0) ++ zs.drop 0, ())).blk := by funext i; rfl
    refine ⟨gh, ?_, ?_, ⟨#[], rfl, .nil⟩⟩
    · rw [← hme]; exact hH
    · rw [← hme]; exact Tr.refl _ _ _
  rcases hown.2 with ⟨hv, h0⟩ | ⟨gb, cap, cur, hv, _, hg, hnc, hcm, hcs, htk⟩
  · omega
  · have hgb : gh.blk 100000 = some gb := by simp [Gh.blk, hv, blockOfV]
    have hglt : gb < w.heap.size := (Array.getElem?_eq_some_iff.1 hg).1
    obtain ⟨bb, hb1, hb2⟩ := hsome (by omega)
    have hpa : pa = some ⟨gb, 0, none⟩ := by
      rw [hv] at hval
      injection hval with e1 e2 e3
      rw [hb1] at e1
      injection e1 with e1
      injection e1 with e1
      rw [hb2, Nat.zero_mul, e1]
    rw [hpa]
    have hvs : RepCs gh (embed (shSortP e r g) (0, hi, zs, u)).blk w (rowsCells r (zs.take hi)) (vs0.take (hi * r.width)) := by
      rw [← rowsCells_take zs hi hhi]; exact hvs0.take _
    have hvl0 : vs0.length = zs.length * r.width := hown.1
    have hvl1 : (vs0.take (hi * r.width)).length = hi * r.width := by
      rw [List.length_take, hvl0]
      exact Nat.min_eq_left (Nat.mul_le_mul_right _ hhi)
    have hXl : (zs.take hi).length = hi := by rw [List.length_take]; omega
    have hvat : ∀ j, j < hi * r.width → (vs0.take (hi * r.width))[j]? = vs0[j]? := fun j hj => by rw [List.getElem?_take, if_pos hj]
    generalize hvs1 : vs0.take (hi * r.width) = vs at hvs hvl1 hvat
    generalize hxs1 : zs.take hi = xs at hvs hXl hok hlen
    cases xs with
    | nil => simp at hXl; omega
    | cons x0 l =>
      generalize hX : x0 :: l = X at *
      have hX0 : 0 < X.length := by rw [← hX]; simp
      have hvl : vs.length = X.length * r.width := by rw [hXl, hvl1]
      have hclamp : ∀ i, (if i < X.length then i else 0) < X.length := fun i => by split <;> omega
      have henc : ∀ i, (vsAt r.width vs X.length i).length = r.width := fun i => by
        unfold vsAt
        rw [List.length_take, List.length_drop, hvl]
        have := Nat.mul_le_mul_right r.width (show (if i < X.length then i else 0) + 1 ≤ X.length from hclamp i)
        rw [Nat.add_mul, Nat.one_mul] at this
        omega
      have hrep : ∀ i, RepCs gh (embed (shSortP e r g) (0, hi, zs, u)).blk w (cellsOf r (X.getD i x0)) (vsAt r.width vs X.length i) := fun i => by
        unfold vsAt
        have hi := hclamp i
        have hgx : X[if i < X.length then i else 0]? = some (X.getD i x0) := by
          split
          · rename_i hlt; simp [List.getD, hlt]
          · rename_i hlt
            rw [show X.getD i x0 = x0 by simp [List.getD, Nat.le_of_not_lt hlt], ← hX]
            rfl
        rw [← rowsCells_at X _ _ hgx]
        exact (hvs.drop _).take _
      have hone : ∀ i, ∀ v ∈ vsAt r.width vs X.length i, v.oneCell' = true := fun i => repCs_one (hrep i) (cellsOf_ok _)
      have hokX : ∀ i, ok (X.getD i x0) = true := fun i => by
        refine hok _ ?_
        by_cases hlt : i < X.length
        · simp only [List.getD, List.getElem?_eq_getElem hlt, Option.getD_some]; exact List.getElem_mem hlt
        · rw [show X.getD i x0 = x0 by simp [List.getD, Nat.le_of_not_lt hlt], ← hX]; simp
      let cI : Nat → Nat → Int := fun i j => cf (X.getD i x0) (X.getD j x0)
      have hOI : SWO (ltOf cI) := swo_at hO fun i => X.getD i x0
      have hflat : (flatK (vsAt r.width vs X.length) r.width (Array.range X.length)).toList = vs := by
        rw [flatK_toList _ _ henc, Array.toList_range]
        have key : ∀ n, n ≤ X.length → (List.range n).flatMap (vsAt r.width vs X.length) = vs.take (n * r.width) := by
          intro n
          induction n with
          | zero => intro _; simp
          | succ n ih =>
            intro hn
            rw [List.range_succ, List.flatMap_append, ih (by omega), List.flatMap_cons, List.flatMap_nil, List.append_nil]
            unfold vsAt
            rw [if_pos (by omega), Nat.add_mul, Nat.one_mul, List.take_add]
        rw [key _ (Nat.le_refl _), ← hvl, List.take_length]
      have hHK : HoldsK (vsAt r.width vs X.length) r.width w gb 0 (Array.range X.length) := by
        intro j hj
        rw [size_flatK, Array.size_range] at hj
        rw [Nat.zero_add]
        have hown' : w.ownsRow 0 e r.width (.slice (some ⟨gb, 0, none⟩) zs.length cap) zs.length vs0 := by rw [← hv]; exact hown
        have hjz : j < zs.length * r.width := Nat.lt_of_lt_of_le (by rw [← hXl]; exact hj) (Nat.mul_le_mul_right _ hhi)
        refine ⟨?_, hown'.frozenAt j⟩
        rw [hown'.cellAt j hjz, ← hvat j (by rw [← hXl]; exact hj)]
        have e1 := get_flatK (vsAt r.width vs X.length) r.width (Array.range X.length) j (by simpa using hj)
        have hlt : j < (flatK (vsAt r.width vs X.length) r.width (Array.range X.length)).size := by simpa using hj
        rw [getElem!_pos _ j hlt, ← Array.getElem_toList]
        simp only [hflat]
        rw [List.getElem?_eq_getElem (by rw [hvl]; exact hj)]
        rfl
      -- the stable cells lie elsewhere
      have hng : ∀ x, gh.S x → x.block ≠ gb := fun x hx e' => by
        have := hH.sep x hx 100000 _ hm (by rw [hgb, e'])
        obtain ⟨h, _⟩ := this
        cases h
      have hheap : ∀ m os dk k, k ≠ gb → k < w.heap.size → (sortWorldK (vsAt r.width vs X.length) r.width w gb 0 m dk os).heap[k]? = w.heap[k]? := by
        intro m os dk k hk hlt
        unfold sortWorldK putRowK putRow mapBlock grow Sort.ahead
        simp only
        rw [Array.getElem?_append_left (by simpa using hlt), Array.getElem?_modify, if_neg (Ne.symm hk)]
      have hsize : ∀ m os dk, w.heap.size ≤ (sortWorldK (vsAt r.width vs X.length) r.width w gb 0 m dk os).heap.size := by
        intro m os dk
        unfold sortWorldK putRowK putRow mapBlock grow Sort.ahead
        simp
      have hcell : ∀ m os dk x, gh.S x → (sortWorldK (vsAt r.width vs X.length) r.width w gb 0 m dk os).cell? x = w.cell? x := fun m os dk x hx =>
        World.cell?_of_block (hheap m os dk x.block (hng x hx) (hH.S_lt hx))
      have hcmp : CmpLays P g #[] (vsAt r.width vs X.length) r.width cI gb 0 (Array.range X.length).size w := by
        intro m os dk hdk i j
        generalize hWd : sortWorldK (vsAt r.width vs X.length) r.width w gb 0 m dk os = W
        have hcW : ∀ x, gh.S x → W.cell? x = w.cell? x := fun x hx => by rw [← hWd]; exact hcell m os dk x hx
        have hHW : HeapOK gh (fun _ => none) W := ⟨⟨fun id b h => (by cases h), fun i j b c h => (by cases h), fun x hx id b h => (by cases h), fun x hx => by
          obtain ⟨q1, v, q2⟩ := hH.st x hx
          exact ⟨q1, v, by rw [hcW x hx]; exact q2⟩⟩, fun k cs hK => by
          obtain ⟨⟨e0, fz, g1⟩, g2⟩ := hH.gr k cs hK
          refine ⟨⟨e0, fz, ?_⟩, fun id b h => (by cases h)⟩
          rw [← hWd, hheap _ _ _ k (fun e' => g2 100000 _ hm rfl (by rw [hgb, e'])) (Array.getElem?_eq_some_iff.1 g1).1]
          exact g1⟩
        have hrW : ∀ i, RepCs gh (fun _ => none) W (cellsOf r (X.getD i x0)) (vsAt r.width vs X.length i) := fun i => by
          refine all2_of_mem (fun a ha v hv => ?_) (hrep i)
          obtain ⟨t, y, rfl⟩ := cellsOf_c ha
          exact repD_mono (S := gh.S) (w := w) (fun _ h => h) hcW (hv : RepD gh.S w t y v)
        have hFc := hcf _ _ (hokX i) (hokX j)
        have henv : (embed (shCmp r) (toP r (X.getD i x0) (toP r (X.getD j x0) ()))).env = [(0, .v (.row (cellsOf r (X.getD i x0)))), (1, .v (.row (cellsOf r (X.getD j x0))))] := by
          simp only [embed, emEnv, emA1, em_toP]
        have hdoes := hc _ _ hFc gh W #[.agg (vsAt r.width vs X.length i).toArray, .agg (vsAt r.width vs X.length j).toArray] rfl hHW (fun t => by
          show RepV gh (fun _ => none) W (lookE t (embed (shCmp r) (toP r (X.getD i x0) (toP r (X.getD j x0) ()))).env) _
          rw [henv]
          match t with
          | 0 => exact ⟨_, rfl, by simpa using hrW i⟩
          | 1 => exact ⟨_, rfl, by simpa using hrW j⟩
          | t + 2 => trivial) hgd
        rcases hdoes with ⟨v, w', q1, _⟩ | ⟨_, q2⟩
        · rw [eg] at q1; cases q1
        · refine Calls.mono q2 fun ev w' ⟨v, he, gh', hH', hT', hres⟩ => ?_
          have hv' : v = .int .i64 (cI i j) := hres
          refine ⟨by rw [he, hv'], ?_⟩
          exact world_grown hT'.os hT'.tape hT'.output hT'.size (fun k hk => hT'.same k hk fun id b h => by cases h) hT'.drawn
      have hcon := AnyQ.slices_SortFunc_eq L r.width aE zE (vsAt r.width vs X.length) henc hone cI hOI g #[] gb 0 pc (Array.range X.length) w eg hcmp hHK hglt (by simpa using hlen)
      rw [show (Array.range X.length).size = X.length by simp, show (Value.slice (some ⟨gb, 0, none⟩) X.length pc) = Value.slice (some ⟨gb, 0, none⟩) hi pc by rw [hXl]] at hcon
      refine Calls.mono hcon fun ev w' ⟨he, n, os, hw'⟩ => ⟨_, he, ?_⟩
      -- the new row
      have hperm := pdq_range hOI X.length
      generalize hD : Sort.pdq (ltOf cI) (Array.range X.length) 0 X.length (Lib.bitLen X.length) true true = D at hw'
      have hDl : sortIdx (ltOf cI) X.length = D.toList := by rw [← hD]; rfl
      rw [hDl] at hperm
      have hDs : D.size = X.length := by have := hperm.length_eq; simpa using this
      have hys : sortBy cf X = D.toList.map fun i => X.getD i x0 := by
        rw [← hDl]
        have : ∀ Y : List r.D, x0 :: l = Y → sortBy cf Y = (sortIdx (ltOf fun i j => cf (Y.getD i x0) (Y.getD j x0)) Y.length).map fun i => Y.getD i x0 := by
          intro Y hY
          subst hY
          rfl
        exact this X hX
      rw [hys]
      have hF := flatK_toList (vsAt r.width vs X.length) r.width henc D
      have hFs : (flatK (vsAt r.width vs X.length) r.width D).size = X.length * r.width := by rw [size_flatK, hDs]
      have hFl : (D.toList.flatMap (vsAt r.width vs X.length)).length = hi * r.width := by rw [← hF, Array.length_toList, hFs, hXl]
      have hDl2 : D.toList.length = hi := by rw [← hXl, ← hDs]; simp
      have hyl : (D.toList.map (fun i => X.getD i x0) ++ zs.drop hi).length = zs.length := by
        rw [List.length_append, List.length_map, hDl2, List.length_drop]; omega
      have hmul : hi * r.width ≤ zs.length * r.width := Nat.mul_le_mul_right _ hhi
      refine fin w' _ (D.toList.flatMap (vsAt r.width vs X.length) ++ vs0.drop (hi * r.width)) gb hgb ?_ ?_ ?_ ?_
      · refine ⟨by rw [hw']; rfl, by rw [hw']; rfl, by rw [hw']; rfl, by rw [hw']; exact hsize n os D, fun k hk hne => by rw [hw']; exact hheap n os D k (fun e' => hne (by rw [e'])) hk⟩
      · rw [hw']
        show w.drawn ≤ w.drawn + n
        omega
      · rw [hv, hyl]
        refine ⟨by rw [List.length_append, hFl, List.length_drop, hvl0]; omega, .inr ⟨gb, cap, putCells id 0 (flatK (vsAt r.width vs X.length) r.width D) cur, rfl, Nat.zero_le _, ?_, hnc, hcm, by unfold putCells; rw [Array.size_mapIdx]; exact hcs, ?_⟩⟩
        · rw [hw']
          unfold sortWorldK putRowK putRow mapBlock grow Sort.ahead
          simp only
          rw [Array.getElem?_append_left (by simpa using hglt), Array.getElem?_modify, if_pos rfl, hg]
          rfl
        · apply List.ext_getElem?
          intro t
          rw [List.getElem?_take]
          have hle : zs.length * r.width ≤ cap * r.width := Nat.mul_le_mul_right _ hnc
          split
          · rename_i hlt
            have htc : t < cur.size := by rw [hcs]; omega
            rw [Array.getElem?_toList]
            unfold putCells
            rw [Array.getElem?_mapIdx, Array.getElem?_eq_getElem htc]
            simp only [Option.map_some, Nat.zero_le, Nat.zero_add, true_and, Nat.sub_zero, id_eq]
            by_cases hth : t < hi * r.width
            · have htF : t < (flatK (vsAt r.width vs X.length) r.width D).size := by rw [hFs, hXl]; exact hth
              rw [if_pos htF, getElem!_pos _ t htF, List.getElem?_append_left (by rw [hFl]; exact hth), ← hF, Array.getElem?_toList, Array.getElem?_eq_getElem htF]
            · rw [if_neg (by rw [hFs, hXl]; exact hth), List.getElem?_append_right (by rw [hFl]; omega), hFl, List.getElem?_drop, show hi * r.width + (t - hi * r.width) = t by omega, ← htk, List.getElem?_take, if_pos hlt, Array.getElem?_toList, Array.getElem?_eq_getElem htc]
          · rename_i hlt
            rw [List.getElem?_eq_none (by rw [List.length_append, hFl, List.length_drop, hvl0]; omega)]
      · have : ∀ (M : List Nat), RepCs gh (embed (shSortP e r g) (0, hi, zs, u)).blk w (rowsCells r (M.map fun i => X.getD i x0)) (M.flatMap (vsAt r.width vs X.length)) := by
          intro M
          induction M with
          | nil => exact .nil
          | cons i M ih =>
            rw [List.map_cons, List.flatMap_cons]
            unfold rowsCells
            rw [List.flatMap_cons]
            exact All2.append (hrep i) ih
        rw [rowsCells_app, ← rowsCells_drop zs hi hhi]
        exact All2.append (this _) (hvs0.drop _)
end
end Go.Vx
namespace Go.Proofs
open Go.Shelf
def Tryz.sortPc_ren : Go.Shelf.Ren := ⟨fun | 6 => 70 | 15 => 95 | 14 => 94 | 28 => 124 | 29 => 125 | 20 => 116 | 21 => 117 | 22 => 118 | 23 => 119 | 24 => 120 | 25 => 121 | 26 => 122 | 27 => 123 | 46 => 151 | 47 => 152 | 48 => 153 | 49 => 154 | 50 => 155 | 57 => 172 | n => n, fun | 22 => 63 | 24 => 68 | 25 => 101 | 3 => 3 | 39 => 128 | 0 => 0 | 53 => 151 | 55 => 153 | 4 => 4 | 46 => 145 | 45 => 144 | 50 => 94 | 5 => 5 | 9 => 9 | 66 => 171 | 70 => 134 | 76 => 187 | 77 => 188 | n => n, fun | n => n⟩
theorem Tryz.sortPc : Go.Proofs.SlLaysF0.n6 Tryz.prog Tryz.sortPc_ren := {
  mixed := by kernel_rfl,
  f6 := ⟨Tryz.f70.name, by decide, Tryz.func70.trans (congrArg some (by kernel_rfl))⟩,
  f14 := ⟨Tryz.f94.name, by decide, Tryz.func94.trans (congrArg some (by kernel_rfl))⟩,
  f15 := Tryz.func95.trans (congrArg some (by kernel_rfl)),
  f20 := ⟨Tryz.f116.name, by decide, Tryz.func116.trans (congrArg some (by kernel_rfl))⟩,
  f21 := ⟨Tryz.f117.name, by decide, Tryz.func117.trans (congrArg some (by kernel_rfl))⟩,
  f22 := ⟨Tryz.f118.name, by decide, Tryz.func118.trans (congrArg some (by kernel_rfl))⟩,
  f23 := ⟨Tryz.f119.name, by decide, Tryz.func119.trans (congrArg some (by kernel_rfl))⟩,
  f24 := ⟨Tryz.f120.name, by decide, Tryz.func120.trans (congrArg some (by kernel_rfl))⟩,
  f25 := ⟨Tryz.f121.name, by decide, Tryz.func121.trans (congrArg some (by kernel_rfl))⟩,
  f26 := ⟨Tryz.f122.name, by decide, Tryz.func122.trans (congrArg some (by kernel_rfl))⟩,
  f27 := ⟨Tryz.f123.name, by decide, Tryz.func123.trans (congrArg some (by kernel_rfl))⟩,
  f28 := Tryz.func124.trans (congrArg some (by kernel_rfl)),
  f29 := Tryz.func125.trans (congrArg some (by kernel_rfl)),
  f46 := ⟨Tryz.f151.name, by decide, Tryz.func151.trans (congrArg some (by kernel_rfl))⟩,
  f47 := Tryz.func152.trans (congrArg some (by kernel_rfl)),
  f48 := Tryz.func153.trans (congrArg some (by kernel_rfl)),
  f49 := ⟨Tryz.f154.name, by decide, Tryz.func154.trans (congrArg some (by kernel_rfl))⟩,
  f50 := ⟨Tryz.f155.name, by decide, Tryz.func155.trans (congrArg some (by kernel_rfl))⟩,
  f57 := ⟨Tryz.f172.name, by decide, Tryz.func172.trans (congrArg some (by kernel_rfl))⟩,
  t0 := Tryz.underlying0,
  a0 := Tryz.isAgg0,
  z0 := Tryz.sizeOf0,
  v0 := Tryz.zeroValue0,
  t3 := Tryz.underlying3,
  a3 := Tryz.isAgg3,
  z3 := Tryz.sizeOf3,
  v3 := Tryz.zeroValue3,
  t4 := Tryz.underlying4,
  a4 := Tryz.isAgg4,
  z4 := Tryz.sizeOf4,
  v4 := Tryz.zeroValue4,
  t5 := Tryz.underlying5,
  a5 := Tryz.isAgg5,
  z5 := Tryz.sizeOf5,
  v5 := Tryz.zeroValue5,
  t9 := Tryz.underlying9,
  a9 := Tryz.isAgg9,
  z9 := Tryz.sizeOf9,
  v9 := Tryz.zeroValue9,
  t22 := Tryz.underlying63,
  a22 := Tryz.isAgg63,
  z22 := Tryz.sizeOf63,
  v22 := Tryz.zeroValue63,
  t25 := Tryz.underlying101,
  a25 := Tryz.isAgg101,
  z25 := Tryz.sizeOf101,
  v25 := Tryz.zeroValue101,
  t39 := Tryz.underlying128,
  a39 := Tryz.isAgg128,
  z39 := Tryz.sizeOf128,
  v39 := Tryz.zeroValue128,
  t45 := Tryz.underlying144,
  a45 := Tryz.isAgg144,
  z45 := Tryz.sizeOf144,
  v45 := Tryz.zeroValue144,
  t46 := Tryz.underlying145,
  a46 := Tryz.isAgg145,
  z46 := Tryz.sizeOf145,
  v46 := Tryz.zeroValue145,
  t50 := Tryz.underlying94,
  a50 := Tryz.isAgg94,
  z50 := Tryz.sizeOf94,
  v50 := Tryz.zeroValue94,
  t53 := Tryz.underlying151,
  a53 := Tryz.isAgg151,
  z53 := Tryz.sizeOf151,
  v53 := Tryz.zeroValue151,
  t55 := Tryz.underlying153,
  a55 := Tryz.isAgg153,
  z55 := Tryz.sizeOf153,
  v55 := Tryz.zeroValue153,
  t66 := Tryz.underlying171,
  a66 := Tryz.isAgg171,
  z66 := Tryz.sizeOf171,
  v66 := Tryz.zeroValue171,
  t70 := Tryz.underlying134,
  a70 := Tryz.isAgg134,
  z70 := Tryz.sizeOf134,
  v70 := Tryz.zeroValue134,
  t76 := Tryz.underlying187,
  a76 := Tryz.isAgg187,
  z76 := Tryz.sizeOf187,
  v76 := Tryz.zeroValue187,
  t77 := Tryz.underlying188,
  a77 := Tryz.isAgg188,
  z77 := Tryz.sizeOf188,
  v77 := Tryz.zeroValue188 }
end Go.Proofs
namespace Go.Vx.Z
open Go Go.Vx Go.Proofs
set_option linter.unusedVariables false
noncomputable def F70 : Nat × Nat × List R8 × Unit → Option (List R8 × Unit) := FSortP r8 68 71 okPc cmpPc
noncomputable def e70 : FE := ⟨70, shSortP 68 r8 71, outSort 68 r8, F70⟩
theorem ok70 : FEOK Tryz.prog e70 :=
  sort_part_ok (P := Tryz.prog) (ρ := Tryz.sortPc_ren) Tryz.sortPc (fun p cap fv w => AnyF.slices_SortFunc_none Tryz.sortPc p cap fv w) (enters_of Tryz.func70 (by kernel_rfl) rfl) (r := r8) (e := 68) (g := 71) Tryz.isAgg68 Tryz.sizeOf68
    (Fc := F71) ok71 (enters_of Tryz.func71 (by kernel_rfl) rfl) cmpPc okPc F71_is swo_pc
end Go.Vx.Z
namespace Go.Vx.Z
open Go Go.Vx Go.Proofs
set_option linter.unusedVariables false
set_option maxRecDepth 1000000
set_option maxHeartbeats 4000000

@[reducible] def sh41 : Shape := ⟨[(0, .one (.own 100000))], [(100000, .lst 68 r8 false)]⟩
@[reducible] def out41 : Shape := ⟨[(0, .one (.d (.list r7)))], [(100000, .lst 68 r8 false)]⟩
noncomputable def b41 : Code := Tryz.f41.body.getD .skip
@[reducible] def sh41_0 : Shape := ⟨[(3, .one (.own 200000)), (14, .one (.os 100000 12)), (15, .one (.d (.int .i64))), (16, .one (.d (.int .i64)))], [(100000, .lst 68 r8 false), (200000, .lst 68 r8 false)]⟩
@[reducible] def os41_0 : List (XE × Shape) := [(.ex 0, ⟨[(3, .one (.own 200000))], [(100000, .lst 68 r8 false), (200000, .lst 68 r8 false)]⟩)]
noncomputable def cx41_0 : Cx := ⟨Tryz.prog, [e40, e68, e70, e72], [53, 54], 84, [], []⟩
noncomputable def B41_0 : Nat × Nat × Int × Int × List R8 × List R8 × Unit → Option ((Nat × Nat × Int × Int × List R8 × List R8 × Unit) ⊕ List R8 × List R8 × Unit) := round cx41_0 (sub [1, 1, 1, 1, 0, 1, 0, 0] b41) sh41_0 os41_0
noncomputable def ce41_0 : CE := ⟨sh41_0, os41_0, loop B41_0⟩
theorem okc41_0 : CEOK Tryz.prog 84 (.at (.loop (sub [1, 1, 1, 1, 0, 1, 0, 0] b41))) ce41_0 := round_ok (cx := cx41_0) (fun R => step_sound (all_fe (P := Tryz.prog) (l := [e40, e68, e70, e72]) ⟨ok40, ok68, ok70, ok72, trivial⟩) R) (needs_of (l := []) (by kernel_rfl) trivial) sh41_0 os41_0
@[reducible] def sh41_1 : Shape := ⟨[(7, .one (.own 200000)), (56, .one (.own 200001)), (57, .one (.d (.int .i64))), (58, .one (.d (.int .i64)))], [(100000, .lst 68 r8 false), (200000, .lst 57 r7 true), (200001, .lst 68 r8 false)]⟩
@[reducible] def os41_1 : List (XE × Shape) := [(.ex 2, ⟨[(7, .one (.own 200000))], [(100000, .lst 68 r8 false), (200000, .lst 57 r7 true)]⟩)]
noncomputable def cx41_1 : Cx := ⟨Tryz.prog, [e40, e68, e70, e72], [53, 54], 84, [(10, ce41_0)], []⟩
noncomputable def B41_1 : Int × Int × List R8 × List R7 × List R8 × Unit → Option ((Int × Int × List R8 × List R7 × List R8 × Unit) ⊕ List R8 × List R7 × Unit) := round cx41_1 (sub [1, 1, 1, 1, 1, 1, 0, 1, 0, 0] b41) sh41_1 os41_1
noncomputable def ce41_1 : CE := ⟨sh41_1, os41_1, loop B41_1⟩
theorem okc41_1 : CEOK Tryz.prog 84 (.at (.loop (sub [1, 1, 1, 1, 1, 1, 0, 1, 0, 0] b41))) ce41_1 := round_ok (cx := cx41_1) (fun R => step_sound (all_fe (P := Tryz.prog) (l := [e40, e68, e70, e72]) ⟨ok40, ok68, ok70, ok72, trivial⟩) R) (needs_of (l := []) (by kernel_rfl) trivial) sh41_1 os41_1
noncomputable def cx41 : Cx := ⟨Tryz.prog, [e40, e68, e70, e72], [53, 54], 84, [(10, ce41_0), (30, ce41_1)], []⟩
noncomputable def F41 : List R8 × Unit → Option (List R7 × List R8 × Unit) := func cx41 Tryz.f41 b41 sh41 out41
noncomputable def e41 : FE := ⟨41, sh41, out41, F41⟩
theorem ok41 : FEOK Tryz.prog e41 := func_ok (cx := cx41) (fn := Tryz.f41) (c := b41) (all_fe (P := Tryz.prog) (l := [e40, e68, e70, e72]) ⟨ok40, ok68, ok70, ok72, trivial⟩) (by kernel_rfl) (by kernel_rfl) (by kernel_rfl) (by kernel_rfl) (by kernel_rfl) (needs_of (l := [((.at (.loop (sub [1, 1, 1, 1, 0, 1, 0, 0] b41))), ce41_0), ((.at (.loop (sub [1, 1, 1, 1, 1, 1, 0, 1, 0, 0] b41))), ce41_1)]) (by kernel_rfl) ⟨okc41_0, okc41_1, trivial⟩)
@[reducible] def sh16 : Shape := ⟨[(0, .one (.d (.list r7))), (1, .one (.d (.list r7)))], []⟩
@[reducible] def out16 : Shape := ⟨[(0, .one (.d (.list r7)))], []⟩
noncomputable def b16 : Code := Tryz.f16.body.getD .skip
@[reducible] def sh16_0 : Shape := ⟨[(1, .one (.d (.list r7))), (5, .one (.own 200000)), (7, .one (.ptr 200001 0)), (12, .one (.own 200002)), (13, .one (.d (.int .i64))), (14, .one (.d (.int .i64))), (19, .one (.own 200003)), (20, .one (.d (.int .i64))), (21, .one (.d (.int .i64)))], [(200000, .lst 68 r8 false), (200001, .box 68 [.d (.int .i64), .d (.int .i64), .d (.int .i64), .d .str, .d .bool, .d .bool, .d (.int .i64), .d (.int .i64), .d (.int .i64), .d .str, .d .bool, .d .bool]), (200002, .lst 68 r8 false), (200003, .lst 68 r8 false)]⟩
@[reducible] def os16_0 : List (XE × Shape) := [(.ex 2, ⟨[(1, .one (.d (.list r7))), (5, .one (.own 200000)), (12, .one (.own 200001)), (13, .one (.d (.int .i64))), (14, .one (.d (.int .i64)))], [(200000, .lst 68 r8 false), (200001, .lst 68 r8 false)]⟩)]
noncomputable def cx16_0 : Cx := ⟨Tryz.prog, [e39, e40, e41], [46, 47], 52, [], []⟩
noncomputable def B16_0 : List R7 × Int × Int × Int × Int × List R8 × Int × Int × Int × ByteArray × Bool × Bool × Int × Int × Int × ByteArray × Bool × Bool × List R8 × List R8 × Unit → Option ((List R7 × Int × Int × Int × Int × List R8 × Int × Int × Int × ByteArray × Bool × Bool × Int × Int × Int × ByteArray × Bool × Bool × List R8 × List R8 × Unit) ⊕ List R7 × Int × Int × List R8 × List R8 × Unit) := round cx16_0 (sub [1, 1, 0, 1, 0, 0, 1, 1, 0, 0, 1, 1, 0, 0] b16) sh16_0 os16_0
noncomputable def ce16_0 : CE := ⟨sh16_0, os16_0, loop B16_0⟩
theorem okc16_0 : CEOK Tryz.prog 52 (.at (.loop (sub [1, 1, 0, 1, 0, 0, 1, 1, 0, 0, 1, 1, 0, 0] b16))) ce16_0 := round_ok (cx := cx16_0) (fun R => step_sound (all_fe (P := Tryz.prog) (l := [e39, e40, e41]) ⟨ok39, ok40, ok41, trivial⟩) R) (needs_of (l := []) (by kernel_rfl) trivial) sh16_0 os16_0
@[reducible] def sh16_1 : Shape := ⟨[(1, .one (.d (.list r7))), (5, .one (.own 200000)), (12, .one (.own 200001)), (13, .one (.d (.int .i64))), (14, .one (.d (.int .i64)))], [(200000, .lst 68 r8 false), (200001, .lst 68 r8 false)]⟩
@[reducible] def os16_1 : List (XE × Shape) := [(.ex 0, ⟨[(5, .one (.own 200000))], [(200000, .lst 68 r8 false)]⟩)]
noncomputable def cx16_1 : Cx := ⟨Tryz.prog, [e39, e40, e41], [46, 47], 52, [(12, ce16_0)], []⟩
noncomputable def B16_1 : List R7 × Int × Int × List R8 × List R8 × Unit → Option ((List R7 × Int × Int × List R8 × List R8 × Unit) ⊕ List R8 × Unit) := round cx16_1 (sub [1, 1, 0, 1, 0, 0] b16) sh16_1 os16_1
noncomputable def ce16_1 : CE := ⟨sh16_1, os16_1, loop B16_1⟩
theorem okc16_1 : CEOK Tryz.prog 52 (.at (.loop (sub [1, 1, 0, 1, 0, 0] b16))) ce16_1 := round_ok (cx := cx16_1) (fun R => step_sound (all_fe (P := Tryz.prog) (l := [e39, e40, e41]) ⟨ok39, ok40, ok41, trivial⟩) R) (needs_of (l := [((.at (.loop (sub [1, 1, 0, 1, 0, 0, 1, 1, 0, 0, 1, 1, 0, 0] b16))), ce16_0)]) (by kernel_rfl) ⟨okc16_0, trivial⟩) sh16_1 os16_1
noncomputable def cx16 : Cx := ⟨Tryz.prog, [e39, e40, e41], [46, 47], 52, [(12, ce16_0), (6, ce16_1)], []⟩
noncomputable def F16 : List R7 × List R7 × Unit → Option (List R7 × Unit) := func cx16 Tryz.f16 b16 sh16 out16
noncomputable def e16 : FE := ⟨16, sh16, out16, F16⟩
theorem ok16 : FEOK Tryz.prog e16 := func_ok (cx := cx16) (fn := Tryz.f16) (c := b16) (all_fe (P := Tryz.prog) (l := [e39, e40, e41]) ⟨ok39, ok40, ok41, trivial⟩) (by kernel_rfl) (by kernel_rfl) (by kernel_rfl) (by kernel_rfl) (by kernel_rfl) (needs_of (l := [((.at (.loop (sub [1, 1, 0, 1, 0, 0] b16))), ce16_1)]) (by kernel_rfl) ⟨okc16_1, trivial⟩)
@[reducible] def sh17 : Shape := ⟨[(0, .one (.d (.list (.list r7))))], []⟩
@[reducible] def out17 : Shape := ⟨[(0, .one (.d (.list r7)))], []⟩
noncomputable def b17 : Code := Tryz.f17.body.getD .skip
noncomputable def cx17 : Cx := ⟨Tryz.prog, [e39v1, e41, e42], [], 7, [], []⟩
noncomputable def F17 : List (List R7) × Unit → Option (List R7 × Unit) := func cx17 Tryz.f17 b17 sh17 out17
noncomputable def e17 : FE := ⟨17, sh17, out17, F17⟩
theorem ok17 : FEOK Tryz.prog e17 := func_ok (cx := cx17) (fn := Tryz.f17) (c := b17) (all_fe (P := Tryz.prog) (l := [e39v1, e41, e42]) ⟨ok39v1, ok41, ok42, trivial⟩) (by kernel_rfl) (by kernel_rfl) (by kernel_rfl) (by kernel_rfl) (by kernel_rfl) (needs_of (l := []) (by kernel_rfl) trivial)
@[reducible] def sh18 : Shape := ⟨[(0, .one (.d (.list r7)))], []⟩
@[reducible] def out18 : Shape := ⟨[(0, .one (.d (.list r7)))], []⟩
noncomputable def b18 : Code := Tryz.f18.body.getD .skip
@[reducible] def sh18_0 : Shape := ⟨[(3, .one (.ptr 200000 0)), (4, .one (.own 200001)), (10, .one (.own 200002)), (11, .one (.d (.int .i64))), (12, .one (.d (.int .i64)))], [(200000, .box 66 [.d (.int .i64), .d (.int .i64), .d (.int .i64), .d .str, .d .bool, .d .bool]), (200001, .lst 68 r8 false), (200002, .lst 68 r8 false)]⟩
@[reducible] def os18_0 : List (XE × Shape) := [(.ex 0, ⟨[(3, .one (.ptr 200000 0)), (4, .one (.own 200001))], [(200000, .box 66 [.d (.int .i64), .d (.int .i64), .d (.int .i64), .d .str, .d .bool, .d .bool]), (200001, .lst 68 r8 false)]⟩)]
noncomputable def cx18_0 : Cx := ⟨Tryz.prog, [e39, e41, e43], [0, 1, 2, 3, 4, 5, 6, 7, 8, 9, 10, 11, 12, 13, 14, 15, 16, 17, 18, 19, 20, 21, 22, 23, 24, 25, 26, 27, 28, 29, 30, 31, 32], 33, [], []⟩
noncomputable def B18_0 : Int × Int × Int × Int × Int × ByteArray × Bool × Bool × List R8 × List R8 × Unit → Option ((Int × Int × Int × Int × Int × ByteArray × Bool × Bool × List R8 × List R8 × Unit) ⊕ Int × Int × Int × ByteArray × Bool × Bool × List R8 × Unit) := round cx18_0 (sub [1, 1, 1, 0, 1, 0, 0] b18) sh18_0 os18_0
noncomputable def ce18_0 : CE := ⟨sh18_0, os18_0, loop B18_0⟩
theorem okc18_0 : CEOK Tryz.prog 33 (.at (.loop (sub [1, 1, 1, 0, 1, 0, 0] b18))) ce18_0 := round_ok (cx := cx18_0) (fun R => step_sound (all_fe (P := Tryz.prog) (l := [e39, e41, e43]) ⟨ok39, ok41, ok43, trivial⟩) R) (needs_of (l := []) (by kernel_rfl) trivial) sh18_0 os18_0
noncomputable def cx18 : Cx := ⟨Tryz.prog, [e39, e41, e43], [0, 1, 2, 3, 4, 5, 6, 7, 8, 9, 10, 11, 12, 13, 14, 15, 16, 17, 18, 19, 20, 21, 22, 23, 24, 25, 26, 27, 28, 29, 30, 31, 32], 33, [(8, ce18_0)], []⟩
noncomputable def F18 : List R7 × Unit → Option (List R7 × Unit) := func cx18 Tryz.f18 b18 sh18 out18
noncomputable def e18 : FE := ⟨18, sh18, out18, F18⟩
theorem ok18 : FEOK Tryz.prog e18 := func_ok (cx := cx18) (fn := Tryz.f18) (c := b18) (all_fe (P := Tryz.prog) (l := [e39, e41, e43]) ⟨ok39, ok41, ok43, trivial⟩) (by kernel_rfl) (by kernel_rfl) (by kernel_rfl) (by kernel_rfl) (by kernel_rfl) (needs_of (l := [((.at (.loop (sub [1, 1, 1, 0, 1, 0, 0] b18))), ce18_0)]) (by kernel_rfl) ⟨okc18_0, trivial⟩)
@[reducible] def sh81 : Shape := ⟨[(0, .row [.d (.int .i64), .d (.int .i64), .d (.int .i64), .d .str, .d .bool, .d .bool]), (1, .row [.d (.int .i64), .d (.int .i64), .d (.int .i64), .d .str, .d .bool, .d .bool])], []⟩
@[reducible] def out81 : Shape := ⟨[(0, .one (.d (.list r7)))], []⟩
noncomputable def b81 : Code := Tryz.f81.body.getD .skip
noncomputable def cx81 : Cx := ⟨Tryz.prog, [e41], [0, 1, 2, 3, 4, 5, 6, 7, 8, 9], 10, [], []⟩
noncomputable def F81 : Int × Int × Int × ByteArray × Bool × Bool × Int × Int × Int × ByteArray × Bool × Bool × Unit → Option (List R7 × Unit) := func cx81 Tryz.f81 b81 sh81 out81
noncomputable def e81 : FE := ⟨81, sh81, out81, F81⟩
theorem ok81 : FEOK Tryz.prog e81 := func_ok (cx := cx81) (fn := Tryz.f81) (c := b81) (all_fe (P := Tryz.prog) (l := [e41]) ⟨ok41, trivial⟩) (by kernel_rfl) (by kernel_rfl) (by kernel_rfl) (by kernel_rfl) (by kernel_rfl) (needs_of (l := []) (by kernel_rfl) trivial)
@[reducible] def sh98 : Shape := ⟨[(0, .one (.d .str))], []⟩
@[reducible] def out98 : Shape := ⟨[(0, .one (.d (.list r7))), (1, .one (.d .bool))], []⟩
noncomputable def b98 : Code := Tryz.f98.body.getD .skip
@[reducible] def sh98_0 : Shape := ⟨[(7, .one (.d (.list .str))), (8, .one (.ptr 200000 0)), (37, .one (.d (.list .str))), (38, .one (.d (.int .i64))), (39, .one (.d (.int .i64)))], [(200000, .box 159 [.d (.int .i64), .d (.int .i64)])]⟩
@[reducible] def os98_0 : List (XE × Shape) := [(.ret, ⟨[(2, .one (.nilS)), (3, .one (.d .bool))], []⟩), (.ex 0, ⟨[(7, .one (.d (.list .str))), (8, .one (.ptr 200000 0))], [(200000, .box 159 [.d (.int .i64), .d (.int .i64)])]⟩)]
noncomputable def cx98_0 : Cx := ⟨Tryz.prog, [e81, e100, e102, e103, e131, e132], [], 72, [], []⟩
noncomputable def B98_0 : List ByteArray × List ByteArray × Int × Int × Int × Int × Unit → Option ((List ByteArray × List ByteArray × Int × Int × Int × Int × Unit) ⊕ (Bool × Unit) ⊕ (List ByteArray × Int × Int × Unit)) := round cx98_0 (sub [1, 1, 1, 1, 1, 1, 0, 1, 0, 0] b98) sh98_0 os98_0
noncomputable def ce98_0 : CE := ⟨sh98_0, os98_0, loop B98_0⟩
theorem okc98_0 : CEOK Tryz.prog 72 (.at (.loop (sub [1, 1, 1, 1, 1, 1, 0, 1, 0, 0] b98))) ce98_0 := round_ok (cx := cx98_0) (fun R => step_sound (all_fe (P := Tryz.prog) (l := [e81, e100, e102, e103, e131, e132]) ⟨ok81, ok100, ok102, ok103, ok131, ok132, trivial⟩) R) (needs_of (l := []) (by kernel_rfl) trivial) sh98_0 os98_0
noncomputable def cx98 : Cx := ⟨Tryz.prog, [e81, e100, e102, e103, e131, e132], [], 72, [(16, ce98_0)], []⟩
noncomputable def F98 : ByteArray × Unit → Option (List R7 × Bool × Unit) := func cx98 Tryz.f98 b98 sh98 out98
noncomputable def e98 : FE := ⟨98, sh98, out98, F98⟩
theorem ok98 : FEOK Tryz.prog e98 := func_ok (cx := cx98) (fn := Tryz.f98) (c := b98) (all_fe (P := Tryz.prog) (l := [e81, e100, e102, e103, e131, e132]) ⟨ok81, ok100, ok102, ok103, ok131, ok132, trivial⟩) (by kernel_rfl) (by kernel_rfl) (by kernel_rfl) (by kernel_rfl) (by kernel_rfl) (needs_of (l := [((.at (.loop (sub [1, 1, 1, 1, 1, 1, 0, 1, 0, 0] b98))), ce98_0)]) (by kernel_rfl) ⟨okc98_0, trivial⟩)
@[reducible] def sh99 : Shape := ⟨[(0, .one (.d .str))], []⟩
@[reducible] def out99 : Shape := ⟨[(0, .one (.d (.list r7))), (1, .one (.d .bool))], []⟩
noncomputable def b99 : Code := Tryz.f99.body.getD .skip
noncomputable def cx99 : Cx := ⟨Tryz.prog, [e18, e80, e81, e132, e133, e134, e135, e136], [], 73, [], []⟩
noncomputable def F99 : ByteArray × Unit → Option (List R7 × Bool × Unit) := func cx99 Tryz.f99 b99 sh99 out99
noncomputable def e99 : FE := ⟨99, sh99, out99, F99⟩
theorem ok99 : FEOK Tryz.prog e99 := func_ok (cx := cx99) (fn := Tryz.f99) (c := b99) (all_fe (P := Tryz.prog) (l := [e18, e80, e81, e132, e133, e134, e135, e136]) ⟨ok18, ok80, ok81, ok132, ok133, ok134, ok135, ok136, trivial⟩) (by kernel_rfl) (by kernel_rfl) (by kernel_rfl) (by kernel_rfl) (by kernel_rfl) (needs_of (l := []) (by kernel_rfl) trivial)
@[reducible] def sh79 : Shape := ⟨[(0, .one (.d .str))], []⟩
@[reducible] def out79 : Shape := ⟨[(0, .one (.d (.list r7))), (1, .one (.d .bool))], []⟩
noncomputable def b79 : Code := Tryz.f79.body.getD .skip
noncomputable def cx79 : Cx := ⟨Tryz.prog, [e77, e98, e99], [], 20, [], []⟩
noncomputable def F79 : ByteArray × Unit → Option (List R7 × Bool × Unit) := func cx79 Tryz.f79 b79 sh79 out79
noncomputable def e79 : FE := ⟨79, sh79, out79, F79⟩
theorem ok79 : FEOK Tryz.prog e79 := func_ok (cx := cx79) (fn := Tryz.f79) (c := b79) (all_fe (P := Tryz.prog) (l := [e77, e98, e99]) ⟨ok77, ok98, ok99, trivial⟩) (by kernel_rfl) (by kernel_rfl) (by kernel_rfl) (by kernel_rfl) (by kernel_rfl) (needs_of (l := []) (by kernel_rfl) trivial)
@[reducible] def sh51 : Shape := ⟨[(0, .one (.ptr 100000 0))], [(100000, .box 80 [.ptr 100001 0, .d .str, .d .str, .d (.int .i64)]), (100001, .box 107 [.d .str, .d (.int .i64)])]⟩
@[reducible] def out51 : Shape := ⟨[(0, .one (.d (.list r7))), (1, .one (.d .bool))], [(100000, .box 80 [.ptr 100001 0, .d .str, .d .str, .d (.int .i64)]), (100001, .box 107 [.d .str, .d (.int .i64)])]⟩
noncomputable def b51 : Code := Tryz.f51.body.getD .skip
@[reducible] def sh51_0 : Shape := ⟨[(0, .one (.ptr 100000 0)), (4, .one (.d (.list r7))), (5, .one (.d .bool)), (6, .one (.d (.int .i64)))], [(100000, .box 80 [.ptr 100001 0, .d .str, .d .str, .d (.int .i64)]), (100001, .box 107 [.d .str, .d (.int .i64)])]⟩
@[reducible] def os51_0 : List (XE × Shape) := [(.ret, ⟨[(2, .one (.d (.list r7))), (3, .one (.d .bool))], [(100000, .box 80 [.ptr 100001 0, .d .str, .d .str, .d (.int .i64)]), (100001, .box 107 [.d .str, .d (.int .i64)])]⟩), (.ex 0, ⟨[], [(100000, .box 80 [.ptr 100001 0, .d .str, .d .str, .d (.int .i64)]), (100001, .box 107 [.d .str, .d (.int .i64)])]⟩)]
noncomputable def cx51_0 : Cx := ⟨Tryz.prog, [e16, e77, e78, e79, e80, e81], [], 76, [], []⟩
noncomputable def B51_0 : List R7 × Bool × Int × ByteArray × ByteArray × Int × ByteArray × Int × Unit → Option ((List R7 × Bool × Int × ByteArray × ByteArray × Int × ByteArray × Int × Unit) ⊕ (List R7 × Bool × ByteArray × ByteArray × Int × ByteArray × Int × Unit) ⊕ (ByteArray × ByteArray × Int × ByteArray × Int × Unit)) := round cx51_0 (sub [1, 1, 1, 0, 1, 0, 0] b51) sh51_0 os51_0
noncomputable def ce51_0 : CE := ⟨sh51_0, os51_0, loop B51_0⟩
theorem okc51_0 : CEOK Tryz.prog 76 (.at (.loop (sub [1, 1, 1, 0, 1, 0, 0] b51))) ce51_0 := round_ok (cx := cx51_0) (fun R => step_sound (all_fe (P := Tryz.prog) (l := [e16, e77, e78, e79, e80, e81]) ⟨ok16, ok77, ok78, ok79, ok80, ok81, trivial⟩) R) (needs_of (l := []) (by kernel_rfl) trivial) sh51_0 os51_0
noncomputable def cx51 : Cx := ⟨Tryz.prog, [e16, e77, e78, e79, e80, e81], [], 76, [(8, ce51_0)], []⟩
noncomputable def F51 : ByteArray × ByteArray × Int × ByteArray × Int × Unit → Option (List R7 × Bool × ByteArray × ByteArray × Int × ByteArray × Int × Unit) := func cx51 Tryz.f51 b51 sh51 out51
noncomputable def e51 : FE := ⟨51, sh51, out51, F51⟩
theorem ok51 : FEOK Tryz.prog e51 := func_ok (cx := cx51) (fn := Tryz.f51) (c := b51) (all_fe (P := Tryz.prog) (l := [e16, e77, e78, e79, e80, e81]) ⟨ok16, ok77, ok78, ok79, ok80, ok81, trivial⟩) (by kernel_rfl) (by kernel_rfl) (by kernel_rfl) (by kernel_rfl) (by kernel_rfl) (needs_of (l := [((.at (.loop (sub [1, 1, 1, 0, 1, 0, 0] b51))), ce51_0)]) (by kernel_rfl) ⟨okc51_0, trivial⟩)
@[reducible] def sh30 : Shape := ⟨[(0, .one (.d .str))], []⟩
@[reducible] def out30 : Shape := ⟨[(0, .one (.d (.list r7))), (1, .one (.d (.int .i64))), (2, .one (.d (.int .i64)))], []⟩
noncomputable def b30 : Code := Tryz.f30.body.getD .skip
@[reducible] def sh30_0 : Shape := ⟨[(0, .one (.d .str)), (5, .one (.ptr 200000 0)), (6, .one (.d (.list r7)))], [(200000, .box 80 [.ptr 200001 0, .d .str, .d .str, .d (.int .i64)]), (200001, .box 107 [.d .str, .d (.int .i64)])]⟩
@[reducible] def os30_0 : List (XE × Shape) := [(.ret, ⟨[(2, .one (.d (.list r7))), (3, .one (.d (.int .i64))), (4, .one (.d (.int .i64)))], []⟩)]
noncomputable def cx30_0 : Cx := ⟨Tryz.prog, [e17, e50, e51, e52], [], 48, [], []⟩
noncomputable def B30_0 : ByteArray × List R7 × ByteArray × ByteArray × Int × ByteArray × Int × Unit → Option ((ByteArray × List R7 × ByteArray × ByteArray × Int × ByteArray × Int × Unit) ⊕ List R7 × Int × Int × Unit) := round cx30_0 (sub [1, 1, 1, 0, 0] b30) sh30_0 os30_0
noncomputable def ce30_0 : CE := ⟨sh30_0, os30_0, loop B30_0⟩
theorem okc30_0 : CEOK Tryz.prog 48 (.at (.loop (sub [1, 1, 1, 0, 0] b30))) ce30_0 := round_ok (cx := cx30_0) (fun R => step_sound (all_fe (P := Tryz.prog) (l := [e17, e50, e51, e52]) ⟨ok17, ok50, ok51, ok52, trivial⟩) R) (needs_of (l := []) (by kernel_rfl) trivial) sh30_0 os30_0
noncomputable def cx30 : Cx := ⟨Tryz.prog, [e17, e50, e51, e52], [], 48, [(6, ce30_0)], []⟩
noncomputable def F30 : ByteArray × Unit → Option (List R7 × Int × Int × Unit) := func cx30 Tryz.f30 b30 sh30 out30
noncomputable def e30 : FE := ⟨30, sh30, out30, F30⟩
theorem ok30 : FEOK Tryz.prog e30 := func_ok (cx := cx30) (fn := Tryz.f30) (c := b30) (all_fe (P := Tryz.prog) (l := [e17, e50, e51, e52]) ⟨ok17, ok50, ok51, ok52, trivial⟩) (by kernel_rfl) (by kernel_rfl) (by kernel_rfl) (by kernel_rfl) (by kernel_rfl) (needs_of (l := [((.at (.loop (sub [1, 1, 1, 0, 0] b30))), ce30_0)]) (by kernel_rfl) ⟨okc30_0, trivial⟩)
@[reducible] def sh14 : Shape := ⟨[], []⟩
@[reducible] def out14 : Shape := ⟨[(0, .one (.d .bool))], []⟩
noncomputable def b14 : Code := Tryz.f14.body.getD .skip
noncomputable def cx14 : Cx := ⟨Tryz.prog, [e16, e17, e18, e24, e30, e34, e37], [], 66, [], []⟩
noncomputable def F14 : Unit → Option (Bool × Unit) := func cx14 Tryz.f14 b14 sh14 out14
noncomputable def e14 : FE := ⟨14, sh14, out14, F14⟩
theorem ok14 : FEOK Tryz.prog e14 := func_ok (cx := cx14) (fn := Tryz.f14) (c := b14) (all_fe (P := Tryz.prog) (l := [e16, e17, e18, e24, e30, e34, e37]) ⟨ok16, ok17, ok18, ok24, ok30, ok34, ok37, trivial⟩) (by kernel_rfl) (by kernel_rfl) (by kernel_rfl) (by kernel_rfl) (by kernel_rfl) (needs_of (l := []) (by kernel_rfl) trivial)
@[reducible] def sh41o : Shape := ⟨[(0, .one (.own 100000))], [(100000, .lst 68 r8 false)]⟩
@[reducible] def out41o : Shape := ⟨[(0, .one (.os 200000 11))], [(100000, .lst 68 r8 false), (200000, .lst 57 r7 false)]⟩
noncomputable def b41o : Code := Tryz.f41.body.getD .skip
@[reducible] def sh41o_0 : Shape := ⟨[(3, .one (.own 200000)), (14, .one (.os 100000 12)), (15, .one (.d (.int .i64))), (16, .one (.d (.int .i64)))], [(100000, .lst 68 r8 false), (200000, .lst 68 r8 false)]⟩
@[reducible] def os41o_0 : List (XE × Shape) := [(.ex 0, ⟨[(3, .one (.own 200000))], [(100000, .lst 68 r8 false), (200000, .lst 68 r8 false)]⟩)]
noncomputable def cx41o_0 : Cx := ⟨Tryz.prog, [e40, e68, e70, e72o], [53, 54, 80], 84, [], []⟩
noncomputable def B41o_0 : Nat × Nat × Int × Int × List R8 × List R8 × Unit → Option ((Nat × Nat × Int × Int × List R8 × List R8 × Unit) ⊕ List R8 × List R8 × Unit) := round cx41o_0 (sub [1, 1, 1, 1, 0, 1, 0, 0] b41o) sh41o_0 os41o_0
noncomputable def ce41o_0 : CE := ⟨sh41o_0, os41o_0, loop B41o_0⟩
@[reducible] def sh41o_1 : Shape := ⟨[(7, .one (.own 200000)), (56, .one (.own 200001)), (57, .one (.d (.int .i64))), (58, .one (.d (.int .i64)))], [(100000, .lst 68 r8 false), (200000, .lst 57 r7 false), (200001, .lst 68 r8 false)]⟩
@[reducible] def os41o_1 : List (XE × Shape) := [(.ex 2, ⟨[(7, .one (.own 200000))], [(100000, .lst 68 r8 false), (200000, .lst 57 r7 false)]⟩)]
noncomputable def cx41o_1 : Cx := ⟨Tryz.prog, [e40, e68, e70, e72o], [53, 54, 80], 84, [(10, ce41o_0)], []⟩
noncomputable def B41o_1 : Int × Int × List R8 × List R7 × List R8 × Unit → Option ((Int × Int × List R8 × List R7 × List R8 × Unit) ⊕ List R8 × List R7 × Unit) := round cx41o_1 (sub [1, 1, 1, 1, 1, 1, 0, 1, 0, 0] b41o) sh41o_1 os41o_1
noncomputable def ce41o_1 : CE := ⟨sh41o_1, os41o_1, loop B41o_1⟩
noncomputable def cx41o : Cx := ⟨Tryz.prog, [e40, e68, e70, e72o], [53, 54, 80], 84, [(10, ce41o_0), (30, ce41o_1)], []⟩
noncomputable def F41o : List R8 × Unit → Option (Nat × Nat × List R8 × List R7 × Unit) := func cx41o Tryz.f41 b41o sh41o out41o
noncomputable def e41o : FE := ⟨41, sh41o, out41o, F41o⟩
@[reducible] def sh16o : Shape := ⟨[(0, .one (.d (.list r7))), (1, .one (.d (.list r7)))], []⟩
@[reducible] def out16o : Shape := ⟨[(0, .one (.os 200000 11))], [(200000, .lst 57 r7 false)]⟩
noncomputable def b16o : Code := Tryz.f16.body.getD .skip
@[reducible] def sh16o_0 : Shape := ⟨[(1, .one (.d (.list r7))), (5, .one (.own 200000)), (7, .one (.ptr 200001 0)), (12, .one (.own 200002)), (13, .one (.d (.int .i64))), (14, .one (.d (.int .i64))), (19, .one (.own 200003)), (20, .one (.d (.int .i64))), (21, .one (.d (.int .i64)))], [(200000, .lst 68 r8 false), (200001, .box 68 [.d (.int .i64), .d (.int .i64), .d (.int .i64), .d .str, .d .bool, .d .bool, .d (.int .i64), .d (.int .i64), .d (.int .i64), .d .str, .d .bool, .d .bool]), (200002, .lst 68 r8 false), (200003, .lst 68 r8 false)]⟩
@[reducible] def os16o_0 : List (XE × Shape) := [(.ex 2, ⟨[(1, .one (.d (.list r7))), (5, .one (.own 200000)), (12, .one (.own 200001)), (13, .one (.d (.int .i64))), (14, .one (.d (.int .i64)))], [(200000, .lst 68 r8 false), (200001, .lst 68 r8 false)]⟩)]
noncomputable def cx16o_0 : Cx := ⟨Tryz.prog, [e39, e40, e41o], [46, 47], 52, [], []⟩
noncomputable def B16o_0 : List R7 × Int × Int × Int × Int × List R8 × Int × Int × Int × ByteArray × Bool × Bool × Int × Int × Int × ByteArray × Bool × Bool × List R8 × List R8 × Unit → Option ((List R7 × Int × Int × Int × Int × List R8 × Int × Int × Int × ByteArray × Bool × Bool × Int × Int × Int × ByteArray × Bool × Bool × List R8 × List R8 × Unit) ⊕ List R7 × Int × Int × List R8 × List R8 × Unit) := round cx16o_0 (sub [1, 1, 0, 1, 0, 0, 1, 1, 0, 0, 1, 1, 0, 0] b16o) sh16o_0 os16o_0
noncomputable def ce16o_0 : CE := ⟨sh16o_0, os16o_0, loop B16o_0⟩
@[reducible] def sh16o_1 : Shape := ⟨[(1, .one (.d (.list r7))), (5, .one (.own 200000)), (12, .one (.own 200001)), (13, .one (.d (.int .i64))), (14, .one (.d (.int .i64)))], [(200000, .lst 68 r8 false), (200001, .lst 68 r8 false)]⟩
@[reducible] def os16o_1 : List (XE × Shape) := [(.ex 0, ⟨[(5, .one (.own 200000))], [(200000, .lst 68 r8 false)]⟩)]
noncomputable def cx16o_1 : Cx := ⟨Tryz.prog, [e39, e40, e41o], [46, 47], 52, [(12, ce16o_0)], []⟩
noncomputable def B16o_1 : List R7 × Int × Int × List R8 × List R8 × Unit → Option ((List R7 × Int × Int × List R8 × List R8 × Unit) ⊕ List R8 × Unit) := round cx16o_1 (sub [1, 1, 0, 1, 0, 0] b16o) sh16o_1 os16o_1
noncomputable def ce16o_1 : CE := ⟨sh16o_1, os16o_1, loop B16o_1⟩
noncomputable def cx16o : Cx := ⟨Tryz.prog, [e39, e40, e41o], [46, 47], 52, [(12, ce16o_0), (6, ce16o_1)], []⟩
noncomputable def F16o : List R7 × List R7 × Unit → Option (Nat × Nat × List R7 × Unit) := func cx16o Tryz.f16 b16o sh16o out16o
noncomputable def e16o : FE := ⟨16, sh16o, out16o, F16o⟩
@[reducible] def sh17o : Shape := ⟨[(0, .one (.d (.list (.list r7))))], []⟩
@[reducible] def out17o : Shape := ⟨[(0, .one (.os 200000 11))], [(200000, .lst 57 r7 false)]⟩
noncomputable def b17o : Code := Tryz.f17.body.getD .skip
noncomputable def cx17o : Cx := ⟨Tryz.prog, [e39v1, e41o, e42], [], 7, [], []⟩
noncomputable def F17o : List (List R7) × Unit → Option (Nat × Nat × List R7 × Unit) := func cx17o Tryz.f17 b17o sh17o out17o
noncomputable def e17o : FE := ⟨17, sh17o, out17o, F17o⟩
@[reducible] def sh18o : Shape := ⟨[(0, .one (.d (.list r7)))], []⟩
@[reducible] def out18o : Shape := ⟨[(0, .one (.os 200000 11))], [(200000, .lst 57 r7 false)]⟩
noncomputable def b18o : Code := Tryz.f18.body.getD .skip
@[reducible] def sh18o_0 : Shape := ⟨[(3, .one (.ptr 200000 0)), (4, .one (.own 200001)), (10, .one (.own 200002)), (11, .one (.d (.int .i64))), (12, .one (.d (.int .i64)))], [(200000, .box 66 [.d (.int .i64), .d (.int .i64), .d (.int .i64), .d .str, .d .bool, .d .bool]), (200001, .lst 68 r8 false), (200002, .lst 68 r8 false)]⟩
@[reducible] def os18o_0 : List (XE × Shape) := [(.ex 0, ⟨[(3, .one (.ptr 200000 0)), (4, .one (.own 200001))], [(200000, .box 66 [.d (.int .i64), .d (.int .i64), .d (.int .i64), .d .str, .d .bool, .d .bool]), (200001, .lst 68 r8 false)]⟩)]
noncomputable def cx18o_0 : Cx := ⟨Tryz.prog, [e39, e41o, e43], [0, 1, 2, 3, 4, 5, 6, 7, 8, 9, 10, 11, 12, 13, 14, 15, 16, 17, 18, 19, 20, 21, 22, 23, 24, 25, 26, 27, 28, 29, 30, 31, 32], 33, [], []⟩
noncomputable def B18o_0 : Int × Int × Int × Int × Int × ByteArray × Bool × Bool × List R8 × List R8 × Unit → Option ((Int × Int × Int × Int × Int × ByteArray × Bool × Bool × List R8 × List R8 × Unit) ⊕ Int × Int × Int × ByteArray × Bool × Bool × List R8 × Unit) := round cx18o_0 (sub [1, 1, 1, 0, 1, 0, 0] b18o) sh18o_0 os18o_0
noncomputable def ce18o_0 : CE := ⟨sh18o_0, os18o_0, loop B18o_0⟩
noncomputable def cx18o : Cx := ⟨Tryz.prog, [e39, e41o, e43], [0, 1, 2, 3, 4, 5, 6, 7, 8, 9, 10, 11, 12, 13, 14, 15, 16, 17, 18, 19, 20, 21, 22, 23, 24, 25, 26, 27, 28, 29, 30, 31, 32], 33, [(8, ce18o_0)], []⟩
noncomputable def F18o : List R7 × Unit → Option (Nat × Nat × List R7 × Unit) := func cx18o Tryz.f18 b18o sh18o out18o
noncomputable def e18o : FE := ⟨18, sh18o, out18o, F18o⟩
end Go.Vx.Z
namespace Go.Vx
theorem fe_const {P : Go.Program} {f : Go.FuncId} {sh out : Shape} {F : sh.D → Option out.D} {r0 : out.D} (h : FEOK P ⟨f, sh, out, F⟩) (hF : ∀ p, F p = some r0) : FEOK P ⟨f, sh, out, fun _ => some r0⟩ := fun p r hr => h p r ((hF p).trans hr)
namespace Z
open Go Go.Vx Go.Proofs
set_option maxRecDepth 1000000
set_option maxHeartbeats 4000000
theorem known_is : F14 () = some (true, ()) := by kernel_rfl
noncomputable def e14k : FE := ⟨14, sh14, out14, fun _ => some (true, ())⟩
theorem ok14k : FEOK Tryz.prog e14k := fe_const (P := Tryz.prog) (f := 14) (sh := sh14) (out := out14) (F := F14) (r0 := (true, ())) ok14 fun _ => known_is
end Z
end Go.Vx
namespace Go.Vx.Z
open Go Go.Vx Go.Proofs
set_option linter.unusedVariables false
set_option maxRecDepth 1000000
set_option maxHeartbeats 4000000

@[reducible] def sh3 : Shape := ⟨[(0, .one (.d (.list (.int .i64)))), (1, .one (.d (.list (.int .i64)))), (2, .one (.d (.list (.int .i64)))), (3, .one (.d (.int .i64))), (4, .one (.d (.int .i64)))], []⟩
@[reducible] def out3 : Shape := ⟨[(0, .one (.d .bool))], []⟩
noncomputable def b3 : Code := Tryz.f3.body.getD .skip
@[reducible] def sh3_0 : Shape := ⟨[(11, .one (.d (.list r7))), (12, .one (.d (.list r7))), (13, .one (.d (.list r7))), (14, .one (.d (.list r7))), (15, .one (.d (.list r7))), (16, .one (.d (.list r7))), (17, .one (.d (.list r5))), (18, .one (.d (.int .i64)))], []⟩
@[reducible] def os3_0 : List (XE × Shape) := [(.ret, ⟨[(10, .one (.d .bool))], []⟩), (.ex 0, ⟨[], []⟩)]
noncomputable def cx3_0 : Cx := ⟨Tryz.prog, [e14k, e15, e16, e17, e18, e19, e20, e21, e22, e23, e24, e25, e26, e27], [], 159, [], []⟩
noncomputable def B3_0 : List R7 × List R7 × List R7 × List R7 × List R7 × List R7 × List R5 × Int × Unit → Option ((List R7 × List R7 × List R7 × List R7 × List R7 × List R7 × List R5 × Int × Unit) ⊕ (Bool × Unit) ⊕ (Unit)) := round cx3_0 (sub [1, 1, 1, 1, 1, 1, 0, 1, 0, 0] b3) sh3_0 os3_0
noncomputable def ce3_0 : CE := ⟨sh3_0, os3_0, loop B3_0⟩
noncomputable def cx3 : Cx := ⟨Tryz.prog, [e14k, e15, e16, e17, e18, e19, e20, e21, e22, e23, e24, e25, e26, e27], [], 159, [(18, ce3_0)], []⟩
noncomputable def F3 : List Int × List Int × List Int × Int × Int × Unit → Option (Bool × Unit) := func cx3 Tryz.f3 b3 sh3 out3
noncomputable def e3 : FE := ⟨3, sh3, out3, F3⟩
@[reducible] def sh4 : Shape := ⟨[(0, .one (.d (.list (.int .i64)))), (1, .one (.d (.list (.int .i64)))), (2, .one (.d (.list (.int .i64))))], []⟩
@[reducible] def out4 : Shape := ⟨[(0, .one (.d .bool))], []⟩
noncomputable def b4 : Code := Tryz.f4.body.getD .skip
noncomputable def cx4 : Cx := ⟨Tryz.prog, [e14k, e15, e16, e17, e18, e19], [], 93, [], []⟩
noncomputable def F4 : List Int × List Int × List Int × Unit → Option (Bool × Unit) := func cx4 Tryz.f4 b4 sh4 out4
noncomputable def e4 : FE := ⟨4, sh4, out4, F4⟩
@[reducible] def sh5 : Shape := ⟨[(0, .one (.d (.list (.int .i64)))), (1, .one (.d (.int .i64))), (2, .one (.d (.int .u8))), (3, .one (.d (.int .i64))), (4, .one (.d .str)), (5, .one (.d .str))], []⟩
@[reducible] def out5 : Shape := ⟨[(0, .one (.d .bool))], []⟩
noncomputable def b5 : Code := Tryz.f5.body.getD .skip
@[reducible] def sh5_0 : Shape := ⟨[(16, .one (.own 200000)), (17, .one (.d (.int .i64)))], [(200000, .lst 9 .str true)]⟩
@[reducible] def os5_0 : List (XE × Shape) := [(.ret, ⟨[(12, .one (.d .bool))], []⟩), (.ex 0, ⟨[], []⟩)]
noncomputable def cx5_0 : Cx := ⟨Tryz.prog, [e14k, e19, e28, e29, e30, e31], [], 121, [], []⟩
noncomputable def B5_0 : Int × List ByteArray × Unit → Option ((Int × List ByteArray × Unit) ⊕ (Bool × Unit) ⊕ (Unit)) := round cx5_0 (sub [1, 1, 1, 1, 1, 1, 1, 1, 0, 1, 0, 0] b5) sh5_0 os5_0
noncomputable def ce5_0 : CE := ⟨sh5_0, os5_0, loop B5_0⟩
noncomputable def cx5 : Cx := ⟨Tryz.prog, [e14k, e19, e28, e29, e30, e31], [], 121, [(22, ce5_0)], []⟩
noncomputable def F5 : List Int × Int × Int × Int × ByteArray × ByteArray × Unit → Option (Bool × Unit) := func cx5 Tryz.f5 b5 sh5 out5
noncomputable def e5 : FE := ⟨5, sh5, out5, F5⟩
@[reducible] def sh6 : Shape := ⟨[(0, .one (.d (.int .i64))), (1, .one (.d (.int .i64))), (2, .one (.d (.int .i64))), (3, .one (.d (.int .i64))), (4, .one (.d (.int .i64)))], []⟩
@[reducible] def out6 : Shape := ⟨[(0, .one (.d .bool))], []⟩
noncomputable def b6 : Code := Tryz.f6.body.getD .skip
noncomputable def cx6 : Cx := ⟨Tryz.prog, [e14k, e24, e26, e29, e30, e32, e33], [], 180, [], []⟩
noncomputable def F6 : Int × Int × Int × Int × Int × Unit → Option (Bool × Unit) := func cx6 Tryz.f6 b6 sh6 out6
noncomputable def e6 : FE := ⟨6, sh6, out6, F6⟩
@[reducible] def sh7 : Shape := ⟨[(0, .one (.d (.list (.int .i64)))), (1, .one (.d (.list (.int .i64))))], []⟩
@[reducible] def out7 : Shape := ⟨[(0, .one (.d .bool))], []⟩
noncomputable def b7 : Code := Tryz.f7.body.getD .skip
noncomputable def cx7 : Cx := ⟨Tryz.prog, [e14k, e15, e19, e34, e35], [], 29, [], []⟩
noncomputable def F7 : List Int × List Int × Unit → Option (Bool × Unit) := func cx7 Tryz.f7 b7 sh7 out7
noncomputable def e7 : FE := ⟨7, sh7, out7, F7⟩
@[reducible] def sh8 : Shape := ⟨[(0, .one (.d (.list (.int .i64)))), (1, .one (.d (.list (.int .i64))))], []⟩
@[reducible] def out8 : Shape := ⟨[(0, .one (.d .bool))], []⟩
noncomputable def b8 : Code := Tryz.f8.body.getD .skip
@[reducible] def sh8_0 : Shape := ⟨[(7, .one (.own 200000)), (8, .one (.d (.int .i64))), (9, .one (.d (.int .i64)))], [(200000, .lst 24 (.list r7) true)]⟩
@[reducible] def os8_0 : List (XE × Shape) := [(.ret, ⟨[(4, .one (.d .bool))], []⟩), (.ex 2, ⟨[(7, .one (.own 200000)), (8, .one (.d (.int .i64)))], [(200000, .lst 24 (.list r7) true)]⟩)]
noncomputable def cx8_0 : Cx := ⟨Tryz.prog, [e14k, e15, e16, e17, e18, e19, e36], [], 80, [], []⟩
noncomputable def B8_0 : Int × Int × List (List R7) × Unit → Option ((Int × Int × List (List R7) × Unit) ⊕ (Bool × Unit) ⊕ (Int × List (List R7) × Unit)) := round cx8_0 (sub [1, 1, 1, 1, 0, 1, 0, 0, 1, 0, 0, 1, 1, 0, 0] b8) sh8_0 os8_0
noncomputable def ce8_0 : CE := ⟨sh8_0, os8_0, loop B8_0⟩
@[reducible] def sh8_1 : Shape := ⟨[(7, .one (.own 200000)), (8, .one (.d (.int .i64)))], [(200000, .lst 24 (.list r7) true)]⟩
@[reducible] def os8_1 : List (XE × Shape) := [(.ret, ⟨[(4, .one (.d .bool))], []⟩), (.ex 0, ⟨[], []⟩)]
noncomputable def cx8_1 : Cx := ⟨Tryz.prog, [e14k, e15, e16, e17, e18, e19, e36], [], 80, [(22, ce8_0)], []⟩
noncomputable def B8_1 : Int × List (List R7) × Unit → Option ((Int × List (List R7) × Unit) ⊕ (Bool × Unit) ⊕ (Unit)) := round cx8_1 (sub [1, 1, 1, 1, 0, 1, 0, 0] b8) sh8_1 os8_1
noncomputable def ce8_1 : CE := ⟨sh8_1, os8_1, loop B8_1⟩
noncomputable def cx8 : Cx := ⟨Tryz.prog, [e14k, e15, e16, e17, e18, e19, e36], [], 80, [(22, ce8_0), (12, ce8_1)], []⟩
noncomputable def F8 : List Int × List Int × Unit → Option (Bool × Unit) := func cx8 Tryz.f8 b8 sh8 out8
noncomputable def e8 : FE := ⟨8, sh8, out8, F8⟩
@[reducible] def sh9 : Shape := ⟨[(0, .one (.d (.int .i64))), (1, .one (.d (.int .i64))), (2, .one (.d (.int .i64))), (3, .one (.d (.int .i64))), (4, .one (.d (.int .i64))), (5, .one (.d (.int .i64))), (6, .one (.d .bool)), (7, .one (.d .bool))], []⟩
@[reducible] def out9 : Shape := ⟨[(0, .one (.d .bool))], []⟩
noncomputable def b9 : Code := Tryz.f9.body.getD .skip
@[reducible] def sh9_0 : Shape := ⟨[(6, .one (.d .bool)), (7, .one (.d .bool)), (17, .one (.own 200000)), (18, .one (.d (.int .i64))), (19, .one (.d (.int .i64)))], [(200000, .lst 34 r5 false)]⟩
@[reducible] def os9_0 : List (XE × Shape) := [(.ex 2, ⟨[(6, .one (.d .bool)), (7, .one (.d .bool)), (17, .one (.own 200000)), (18, .one (.d (.int .i64)))], [(200000, .lst 34 r5 false)]⟩)]
noncomputable def cx9_0 : Cx := ⟨Tryz.prog, [e14k, e16, e17, e24, e26, e32], [34], 160, [], []⟩
noncomputable def B9_0 : Bool × Bool × Int × Int × List R5 × Unit → Option ((Bool × Bool × Int × Int × List R5 × Unit) ⊕ Bool × Bool × Int × List R5 × Unit) := round cx9_0 (sub [1, 1, 1, 0, 1, 0, 0, 1, 0, 0, 1, 0, 0] b9) sh9_0 os9_0
noncomputable def ce9_0 : CE := ⟨sh9_0, os9_0, loop B9_0⟩
@[reducible] def sh9_1 : Shape := ⟨[(6, .one (.d .bool)), (7, .one (.d .bool)), (17, .one (.own 200000)), (18, .one (.d (.int .i64)))], [(200000, .lst 34 r5 false)]⟩
@[reducible] def os9_1 : List (XE × Shape) := [(.ex 0, ⟨[(6, .one (.d .bool)), (7, .one (.d .bool)), (17, .one (.own 200000))], [(200000, .lst 34 r5 false)]⟩)]
noncomputable def cx9_1 : Cx := ⟨Tryz.prog, [e14k, e16, e17, e24, e26, e32], [34], 160, [(16, ce9_0)], []⟩
noncomputable def B9_1 : Bool × Bool × Int × List R5 × Unit → Option ((Bool × Bool × Int × List R5 × Unit) ⊕ Bool × Bool × List R5 × Unit) := round cx9_1 (sub [1, 1, 1, 0, 1, 0, 0] b9) sh9_1 os9_1
noncomputable def ce9_1 : CE := ⟨sh9_1, os9_1, loop B9_1⟩
noncomputable def cx9 : Cx := ⟨Tryz.prog, [e14k, e16, e17, e24, e26, e32], [34], 160, [(16, ce9_0), (10, ce9_1)], []⟩
noncomputable def F9 : Int × Int × Int × Int × Int × Int × Bool × Bool × Unit → Option (Bool × Unit) := func cx9 Tryz.f9 b9 sh9 out9
noncomputable def e9 : FE := ⟨9, sh9, out9, F9⟩
@[reducible] def sh10 : Shape := ⟨[(0, .one (.d (.int .i64)))], []⟩
@[reducible] def out10 : Shape := ⟨[(0, .one (.d .bool))], []⟩
noncomputable def b10 : Code := Tryz.f10.body.getD .skip
noncomputable def cx10 : Cx := ⟨Tryz.prog, [e14k, e29, e30, e34], [], 37, [], []⟩
noncomputable def F10 : Int × Unit → Option (Bool × Unit) := func cx10 Tryz.f10 b10 sh10 out10
noncomputable def e10 : FE := ⟨10, sh10, out10, F10⟩
@[reducible] def sh11 : Shape := ⟨[(0, .one (.d (.int .i64)))], []⟩
@[reducible] def out11 : Shape := ⟨[(0, .one (.d .bool))], []⟩
noncomputable def b11 : Code := Tryz.f11.body.getD .skip
noncomputable def cx11 : Cx := ⟨Tryz.prog, [e14k, e29, e30], [], 41, [], []⟩
noncomputable def F11 : Int × Unit → Option (Bool × Unit) := func cx11 Tryz.f11 b11 sh11 out11
noncomputable def e11 : FE := ⟨11, sh11, out11, F11⟩
theorem ok11 : FEOK Tryz.prog e11 := func_ok (cx := cx11) (fn := Tryz.f11) (c := b11) (all_fe (P := Tryz.prog) (l := [e14k, e29, e30]) ⟨ok14k, ok29, ok30, trivial⟩) (by kernel_rfl) (by kernel_rfl) (by kernel_rfl) (by kernel_rfl) (by kernel_rfl) (needs_of (l := []) (by kernel_rfl) trivial)
@[reducible] def sh12 : Shape := ⟨[(0, .one (.d (.list (.int .i64)))), (1, .one (.d (.list (.int .i64)))), (2, .one (.d (.int .i64)))], []⟩
@[reducible] def out12 : Shape := ⟨[(0, .one (.d .bool))], []⟩
noncomputable def b12 : Code := Tryz.f12.body.getD .skip
noncomputable def cx12 : Cx := ⟨Tryz.prog, [e14k, e17, e19, e28, e29, e30], [], 96, [], []⟩
noncomputable def F12 : List Int × List Int × Int × Unit → Option (Bool × Unit) := func cx12 Tryz.f12 b12 sh12 out12
noncomputable def e12 : FE := ⟨12, sh12, out12, F12⟩
@[reducible] def sh13 : Shape := ⟨[(0, .one (.d (.list (.int .i64)))), (1, .one (.d (.list (.int .i64))))], []⟩
@[reducible] def out13 : Shape := ⟨[(0, .one (.d .bool))], []⟩
noncomputable def b13 : Code := Tryz.f13.body.getD .skip
@[reducible] def sh13_0 : Shape := ⟨[(0, .one (.d (.list (.int .i64)))), (1, .one (.d (.list (.int .i64)))), (5, .one (.d (.list r7))), (6, .one (.d (.list r7))), (7, .one (.bs 200000 4)), (8, .one (.d (.int .i64))), (9, .one (.d (.int .i64)))], [(200000, .box 24 [.os 200001 11, .os 200002 11, .os 200003 11, .os 200004 11]), (200001, .lst 57 r7 false), (200002, .lst 57 r7 false), (200003, .lst 57 r7 false), (200004, .lst 57 r7 false)]⟩
@[reducible] def os13_0 : List (XE × Shape) := [(.ex 2, ⟨[(0, .one (.d (.list (.int .i64)))), (1, .one (.d (.list (.int .i64)))), (5, .one (.d (.list r7))), (6, .one (.d (.list r7))), (7, .one (.bs 200000 4)), (8, .one (.d (.int .i64)))], [(200000, .box 24 [.os 200001 11, .os 200002 11, .os 200003 11, .os 200004 11]), (200001, .lst 57 r7 false), (200002, .lst 57 r7 false), (200003, .lst 57 r7 false), (200004, .lst 57 r7 false)]⟩)]
noncomputable def cx13_0 : Cx := ⟨Tryz.prog, [e14k, e15, e16o, e17o, e18o, e19], [100028], 61, [], []⟩
noncomputable def B13_0 : List Int × List Int × List R7 × List R7 × Int × Int × Nat × Nat × Nat × Nat × Nat × Nat × Nat × Nat × List R7 × List R7 × List R7 × List R7 × Unit → Option ((List Int × List Int × List R7 × List R7 × Int × Int × Nat × Nat × Nat × Nat × Nat × Nat × Nat × Nat × List R7 × List R7 × List R7 × List R7 × Unit) ⊕ List Int × List Int × List R7 × List R7 × Int × Nat × Nat × Nat × Nat × Nat × Nat × Nat × Nat × List R7 × List R7 × List R7 × List R7 × Unit) := round cx13_0 (sub [1, 1, 1, 1, 0, 1, 0, 0, 1, 0, 0, 1, 0, 0] b13) sh13_0 os13_0
noncomputable def ce13_0 : CE := ⟨sh13_0, os13_0, loop B13_0⟩
@[reducible] def sh13_1 : Shape := ⟨[(0, .one (.d (.list (.int .i64)))), (1, .one (.d (.list (.int .i64)))), (5, .one (.d (.list r7))), (6, .one (.d (.list r7))), (7, .one (.bs 200000 4)), (8, .one (.d (.int .i64)))], [(200000, .box 24 [.os 200001 11, .os 200002 11, .os 200003 11, .os 200004 11]), (200001, .lst 57 r7 false), (200002, .lst 57 r7 false), (200003, .lst 57 r7 false), (200004, .lst 57 r7 false)]⟩
@[reducible] def os13_1 : List (XE × Shape) := [(.ex 0, ⟨[(0, .one (.d (.list (.int .i64)))), (1, .one (.d (.list (.int .i64)))), (5, .one (.d (.list r7))), (6, .one (.d (.list r7)))], []⟩)]
noncomputable def cx13_1 : Cx := ⟨Tryz.prog, [e14k, e15, e16o, e17o, e18o, e19], [100028], 61, [(18, ce13_0)], []⟩
noncomputable def B13_1 : List Int × List Int × List R7 × List R7 × Int × Nat × Nat × Nat × Nat × Nat × Nat × Nat × Nat × List R7 × List R7 × List R7 × List R7 × Unit → Option ((List Int × List Int × List R7 × List R7 × Int × Nat × Nat × Nat × Nat × Nat × Nat × Nat × Nat × List R7 × List R7 × List R7 × List R7 × Unit) ⊕ List Int × List Int × List R7 × List R7 × Unit) := round cx13_1 (sub [1, 1, 1, 1, 0, 1, 0, 0] b13) sh13_1 os13_1
noncomputable def ce13_1 : CE := ⟨sh13_1, os13_1, loop B13_1⟩
noncomputable def cx13 : Cx := ⟨Tryz.prog, [e14k, e15, e16o, e17o, e18o, e19], [100028], 61, [(18, ce13_0), (12, ce13_1)], []⟩
noncomputable def F13 : List Int × List Int × Unit → Option (Bool × Unit) := func cx13 Tryz.f13 b13 sh13 out13
noncomputable def e13 : FE := ⟨13, sh13, out13, F13⟩
end Go.Vx.Z
/-! Loops over lists; sorts. -/
namespace Go.Vx
open Go
set_option linter.unusedVariables false
theorem loop_fold {P E α β : Type} {B : P → Option (P ⊕ E)} (xs : List α) (st : Nat → β → P) (f : β → α → β) (en : β → E) (b0 : β) (I : Nat → β → Prop) (h0 : I 0 b0)
    (hs : ∀ i (h : i < xs.length) b, I i b → B (st i b) = some (.inl (st (i + 1) (f b xs[i]))) ∧ I (i + 1) (f b xs[i])) (he : ∀ b, I xs.length b → B (st xs.length b) = some (.inr (en b))) :
    loop B (st 0 b0) = some (en (xs.foldl f b0)) := by
  have key : ∀ (n i : Nat) b, xs.length - i = n → i ≤ xs.length → I i b → loop B (st i b) = some (en ((xs.drop i).foldl f b)) := by
    intro n
    induction n with
    | zero =>
      intro i b h1 h2 hI
      have : i = xs.length := by omega
      subst this
      rw [List.drop_length]
      exact loop_end (he b hI)
    | succ n ih =>
      intro i b h1 h2 hI
      have hlt : i < xs.length := by omega
      obtain ⟨hb, hI'⟩ := hs i hlt b hI
      rw [List.drop_eq_getElem_cons hlt, List.foldl_cons]
      exact loop_step hb (ih (i + 1) _ (by omega) hlt hI')
  have := key xs.length 0 b0 (by omega) (by omega) h0
  simpa using this
theorem lt_in {i n : Nat} (h : i < n) : decide ((i : Int) < Int.ofNat n) = true := by simp; omega
theorem lt_out (n : Nat) : decide ((n : Int) < Int.ofNat n) = false := by simp
theorem ge_zero (i : Nat) : decide (Int.ofNat 0 ≤ (i : Int)) = true := by simp
theorem at_in {α : Type} {xs : List α} {i : Nat} (h : i < xs.length) : xs[Int.toNat (i : Int)]? = some xs[i] := by simp [h]
theorem wrap_next {i n : Nat} (h : i < n) (hn : n ≤ 9223372036854775807) : IntKind.wrap IntKind.i64 ((i : Int) + Int.ofNat 1) = ((i + 1 : Nat) : Int) := wrap64s i (by omega)
theorem loop_upto {P E β : Type} {B : P → Option (P ⊕ E)} (n : Nat) (st : Nat → β → P) (en : β → E) (I : Nat → β → Prop)
    (hs : ∀ i, i < n → ∀ b, I i b → ∃ b', B (st i b) = some (.inl (st (i + 1) b')) ∧ I (i + 1) b') (he : ∀ b, I n b → B (st n b) = some (.inr (en b))) : ∀ k b, k ≤ n → I k b → ∃ b', loop B (st k b) = some (en b') ∧ I n b' := by
  have key : ∀ (d k : Nat) b, n - k = d → k ≤ n → I k b → ∃ b', loop B (st k b) = some (en b') ∧ I n b' := by
    intro d
    induction d with
    | zero =>
      intro k b h1 h2 hI
      have : k = n := by omega
      subst this
      exact ⟨b, loop_end (he b hI), hI⟩
    | succ d ih =>
      intro k b h1 h2 hI
      obtain ⟨b', h3, h4⟩ := hs k (by omega) b hI
      obtain ⟨b'', h5, h6⟩ := ih (k + 1) b' (by omega) (by omega) h4
      exact ⟨b'', loop_step h3 h5, h6⟩
  intro k b hk hI
  exact key (n - k) k b rfl hk hI
theorem foldl_snoc {α β : Type} (f : α → β) : ∀ (l : List α) (acc : List β), l.foldl (fun b y => b ++ [f y]) acc = acc ++ l.map f
  | [], acc => by simp
  | y :: l, acc => by rw [List.foldl_cons, foldl_snoc f l]; simp
theorem loop_map {P E α β : Type} {B : P → Option (P ⊕ E)} (xs : List α) (st : Nat → List β → P) (f : α → β) (en : List β → E)
    (hs : ∀ i (h : i < xs.length) b, b.length = i → B (st i b) = some (.inl (st (i + 1) (b ++ [f xs[i]])))) (he : ∀ b, b.length = xs.length → B (st xs.length b) = some (.inr (en b))) :
    loop B (st 0 []) = some (en (xs.map f)) := by
  have := loop_fold (B := B) xs st (fun b y => b ++ [f y]) en [] (fun i b => b.length = i) rfl (fun i h b hb => ⟨hs i h b hb, by simp [hb]⟩) he
  rw [this, foldl_snoc]
  rfl
theorem loop_at {P E α : Type} {B : P → Option (P ⊕ E)} (xs : List α) (st : Nat → P) (p : α → Bool) (hit : Nat → E) (miss : E)
    (hs : ∀ i (h : i < xs.length), B (st i) = some (bif p xs[i] then .inr (hit i) else .inl (st (i + 1)))) (he : B (st xs.length) = some (.inr miss)) :
    loop B (st 0) = some (if xs.findIdx p < xs.length then hit (xs.findIdx p) else miss) := by
  refine loop_row st (xs.findIdx p) (fun i hi => ?_) ?_
  · have hl : i < xs.length := Nat.lt_of_lt_of_le hi List.findIdx_le_length
    rw [hs i hl]
    have := List.not_of_lt_findIdx hi
    rw [show p xs[i] = false by simpa using this]
    rfl
  · by_cases h : xs.findIdx p < xs.length
    · rw [if_pos h, hs _ h, List.findIdx_getElem (w := h)]
      rfl
    · rw [if_neg h]
      have : xs.findIdx p = xs.length := Nat.le_antisymm List.findIdx_le_length (by omega)
      rw [this]
      exact he
theorem sortBy_perm {α : Type} {cf : α → α → Int} (h : Sort.SWO (Proofs.ltOf cf)) (l : List α) : (sortBy cf l).Perm l := by
  cases l with
  | nil => exact .refl _
  | cons x l =>
    unfold sortBy
    have hp := pdq_range (swo_at h fun i => (x :: l).getD i x) (x :: l).length
    refine (hp.map _).trans ?_
    have : (List.range (x :: l).length).map (fun i => (x :: l).getD i x) = x :: l := by
      apply List.ext_getElem
      · simp
      · intro i h1 h2
        simp only [List.getElem_map, List.getElem_range]
        rw [List.getD_eq_getElem?_getD, List.getElem?_eq_getElem h2]
        rfl
    rw [this]
theorem sortBy_sorted {α : Type} {cf : α → α → Int} (h : Sort.SWO (Proofs.ltOf cf)) (l : List α) : (sortBy cf l).Pairwise fun a b => ¬ cf b a < 0 := by
  cases l with
  | nil => exact .nil
  | cons x l =>
    have hO : Sort.SWO (Proofs.ltOf fun i j => cf ((x :: l).getD i x) ((x :: l).getD j x)) := swo_at h fun i => (x :: l).getD i x
    obtain ⟨_, h2⟩ := Sort.pdq_sorts _ hO (Array.range (x :: l).length) 0 (x :: l).length (Lib.bitLen (x :: l).length) true true (Nat.zero_le _) (by simp) (Or.inl rfl)
    unfold sortBy sortIdx
    rw [List.pairwise_map, List.pairwise_iff_getElem]
    intro i j hi hj hij hlt
    have hlen := (pdq_range hO (x :: l).length).length_eq
    simp only [sortIdx, List.length_range] at hlen
    have h3 := h2 i j (Nat.zero_le _) hij (by omega)
    rw [getElem!_pos _ j (by simpa using hj), getElem!_pos _ i (by simpa using hi)] at h3
    simp only [Array.getElem_toList] at hlt
    unfold Proofs.ltOf at h3
    simp only [decide_eq_false_iff_not] at h3
    exact h3 hlt
end Go.Vx
namespace Go.Vx.Z
open Go Go.Vx Go.Proofs
set_option linter.unusedVariables false
set_option maxRecDepth 1000000
set_option maxHeartbeats 4000000
theorem B41_0_eq (x0 x1 : Nat) (x2 x3 : Int) (x4 x5 : List R8) : B41_0 (x0, x1, x2, x3, x4, x5, ()) =
  bif decide (x3 < x2) then bif decide (Int.ofNat 0 ≤ x3) && decide (x3 < Int.ofNat (x1 - x0)) then Option.bind x4[x0 + Int.toNat x3]? fun y => bif decide (IntKind.wrap IntKind.i64 (Int.ofNat (List.length x5) - Int.ofNat 1) ≥ Int.ofNat 0) then bif decide (Int.ofNat 0 ≤ IntKind.wrap IntKind.i64 (Int.ofNat (List.length x5) - Int.ofNat 1)) && decide (IntKind.wrap IntKind.i64 (Int.ofNat (List.length x5) - Int.ofNat 1) < Int.ofNat (List.length x5)) then Option.bind x5[Int.toNat (IntKind.wrap IntKind.i64 (Int.ofNat (List.length x5) - Int.ofNat 1))]? fun y_1 => Option.bind (F40 (y.1, y.2.1, y.2.2.1, y.2.2.2.1, y.2.2.2.2.1, y.2.2.2.2.2.1, y_1.2.2.2.2.2.2.1, y_1.2.2.2.2.2.2.2.1, y_1.2.2.2.2.2.2.2.2.1, y_1.2.2.2.2.2.2.2.2.2.1, y_1.2.2.2.2.2.2.2.2.2.2.1, y_1.2.2.2.2.2.2.2.2.2.2.2.1, ())) fun r => bif decide (r.1 ≤ Int.ofNat 0) then bif decide (Int.ofNat 0 ≤ IntKind.wrap IntKind.i64 (Int.ofNat (List.length x5) - Int.ofNat 1)) && decide (IntKind.wrap IntKind.i64 (Int.ofNat (List.length x5) - Int.ofNat 1) < Int.ofNat (List.length x5)) then Option.bind x5[Int.toNat (IntKind.wrap IntKind.i64 (Int.ofNat (List.length x5) - Int.ofNat 1))]? fun y_2 => Option.bind (F40 (y.2.2.2.2.2.2.1, y.2.2.2.2.2.2.2.1, y.2.2.2.2.2.2.2.2.1, y.2.2.2.2.2.2.2.2.2.1, y.2.2.2.2.2.2.2.2.2.2.1, y.2.2.2.2.2.2.2.2.2.2.2.1, y_2.2.2.2.2.2.2.1, y_2.2.2.2.2.2.2.2.1, y_2.2.2.2.2.2.2.2.2.1, y_2.2.2.2.2.2.2.2.2.2.1, y_2.2.2.2.2.2.2.2.2.2.2.1, y_2.2.2.2.2.2.2.2.2.2.2.2.1, ())) fun r => bif decide (r.1 > Int.ofNat 0) then bif decide (Int.ofNat 0 ≤ IntKind.wrap IntKind.i64 (Int.ofNat (List.length x5) - Int.ofNat 1)) && decide (IntKind.wrap IntKind.i64 (Int.ofNat (List.length x5) - Int.ofNat 1) < Int.ofNat (List.length x5)) then Option.bind x5[Int.toNat (IntKind.wrap IntKind.i64 (Int.ofNat (List.length x5) - Int.ofNat 1))]? fun y_3 => some (Sum.inl (x0, x1, x2, IntKind.wrap IntKind.i64 (x3 + Int.ofNat 1), x4, List.set x5 (Int.toNat (IntKind.wrap IntKind.i64 (Int.ofNat (List.length x5) - Int.ofNat 1))) (y_3.1, y_3.2.1, y_3.2.2.1, y_3.2.2.2.1, y_3.2.2.2.2.1, y_3.2.2.2.2.2.1, y.2.2.2.2.2.2.1, y.2.2.2.2.2.2.2.1, y.2.2.2.2.2.2.2.2.1, y.2.2.2.2.2.2.2.2.2.1, y.2.2.2.2.2.2.2.2.2.2.1, y.2.2.2.2.2.2.2.2.2.2.2.1, ()), ())) else none else some (Sum.inl (x0, x1, x2, IntKind.wrap IntKind.i64 (x3 + Int.ofNat 1), x4, x5, ())) else none else bif decide (List.length x5 + List.length [(y.1, y.2.1, y.2.2.1, y.2.2.2.1, y.2.2.2.2.1, y.2.2.2.2.2.1, y.2.2.2.2.2.2.1, y.2.2.2.2.2.2.2.1, y.2.2.2.2.2.2.2.2.1, y.2.2.2.2.2.2.2.2.2.1, y.2.2.2.2.2.2.2.2.2.2.1, y.2.2.2.2.2.2.2.2.2.2.2.1, ())] ≤ 1466015503701) then some (Sum.inl (x0, x1, x2, IntKind.wrap IntKind.i64 (x3 + Int.ofNat 1), x4, x5 ++ [(y.1, y.2.1, y.2.2.1, y.2.2.2.1, y.2.2.2.2.1, y.2.2.2.2.2.1, y.2.2.2.2.2.2.1, y.2.2.2.2.2.2.2.1, y.2.2.2.2.2.2.2.2.1, y.2.2.2.2.2.2.2.2.2.1, y.2.2.2.2.2.2.2.2.2.2.1, y.2.2.2.2.2.2.2.2.2.2.2.1, ())], ())) else none else none else bif decide (List.length x5 + List.length [(y.1, y.2.1, y.2.2.1, y.2.2.2.1, y.2.2.2.2.1, y.2.2.2.2.2.1, y.2.2.2.2.2.2.1, y.2.2.2.2.2.2.2.1, y.2.2.2.2.2.2.2.2.1, y.2.2.2.2.2.2.2.2.2.1, y.2.2.2.2.2.2.2.2.2.2.1, y.2.2.2.2.2.2.2.2.2.2.2.1, ())] ≤ 1466015503701) then some (Sum.inl (x0, x1, x2, IntKind.wrap IntKind.i64 (x3 + Int.ofNat 1), x4, x5 ++ [(y.1, y.2.1, y.2.2.1, y.2.2.2.1, y.2.2.2.2.1, y.2.2.2.2.2.1, y.2.2.2.2.2.2.1, y.2.2.2.2.2.2.2.1, y.2.2.2.2.2.2.2.2.1, y.2.2.2.2.2.2.2.2.2.1, y.2.2.2.2.2.2.2.2.2.2.1, y.2.2.2.2.2.2.2.2.2.2.2.1, ())], ())) else none else none else some (Sum.inr (x4, x5, ())) := by kernel_rfl
theorem B41_1_eq (x0 x1 : Int) (x2 : List R8) (x3 : List R7) (x4 : List R8) : B41_1 (x0, x1, x2, x3, x4, ()) =
  bif decide (x1 < x0) then bif decide (Int.ofNat 0 ≤ x1) && decide (x1 < Int.ofNat (List.length x4)) then Option.bind x4[Int.toNat x1]? fun y => bif decide (List.length x3 + List.length [(y.1, y.2.1, y.2.2.1, y.2.2.2.1, y.2.2.2.2.2.2.1, y.2.2.2.2.2.2.2.1, y.2.2.2.2.2.2.2.2.1, y.2.2.2.2.2.2.2.2.2.1, y.2.2.2.2.1, y.2.2.2.2.2.2.2.2.2.2.1, y.2.2.2.2.2.2.2.2.2.2.2.1, ())] ≤ 1599289640401) then some (Sum.inl (x0, IntKind.wrap IntKind.i64 (x1 + Int.ofNat 1), x2, x3 ++ [(y.1, y.2.1, y.2.2.1, y.2.2.2.1, y.2.2.2.2.2.2.1, y.2.2.2.2.2.2.2.1, y.2.2.2.2.2.2.2.2.1, y.2.2.2.2.2.2.2.2.2.1, y.2.2.2.2.1, y.2.2.2.2.2.2.2.2.2.2.1, y.2.2.2.2.2.2.2.2.2.2.2.1, ())], x4, ())) else none else none else some (Sum.inr (x2, x3, ())) := by kernel_rfl
theorem F41_eq (x0 : List R8) : F41 (x0, ()) =
  Option.bind (F68 (x0, ())) fun r => Option.bind (F70 (r.1, r.2.1, r.2.2.1, ())) fun r_1 => Option.bind (loop B41_0 (r.1, r.2.1, Int.ofNat (r.2.1 - r.1), Int.ofNat 0, r_1.1, [], ())) fun r => Option.bind (loop B41_1 (Int.ofNat (List.length r.2.1), Int.ofNat 0, r.1, [], r.2.1, ())) fun r => Option.bind (F72 (r.2.1, ())) fun r_2 => some (r_2.1, r.1, ()) := by kernel_rfl
theorem B16_0_eq (x0 : List R7) (x1 x2 x3 x4 : Int) (x5 : List R8) (x6 x7 x8 : Int) (x9 : ByteArray) (x10 x11 : Bool) (x12 x13 x14 : Int) (x15 : ByteArray) (x16 x17 : Bool) (x18 x19 : List R8) : B16_0 (x0, x1, x2, x3, x4, x5, x6, x7, x8, x9, x10, x11, x12, x13, x14, x15, x16, x17, x18, x19, ()) =
  bif decide (x4 < x3) then bif decide (Int.ofNat 0 ≤ x4) && decide (x4 < Int.ofNat (List.length x19)) then Option.bind x19[Int.toNat x4]? fun y => Option.bind (F40 (y.1, y.2.1, y.2.2.1, y.2.2.2.1, y.2.2.2.2.1, y.2.2.2.2.2.1, x6, x7, x8, x9, x10, x11, ())) fun r => bif decide (r.1 > Int.ofNat 0) then Option.bind (F40 (y.2.2.2.2.2.2.1, y.2.2.2.2.2.2.2.1, y.2.2.2.2.2.2.2.2.1, y.2.2.2.2.2.2.2.2.2.1, y.2.2.2.2.2.2.2.2.2.2.1, y.2.2.2.2.2.2.2.2.2.2.2.1, x12, x13, x14, x15, x16, x17, ())) fun r => bif decide (r.1 < Int.ofNat 0) then bif decide (List.length x5 + List.length [(y.1, y.2.1, y.2.2.1, y.2.2.2.1, y.2.2.2.2.1, y.2.2.2.2.2.1, y.2.2.2.2.2.2.1, y.2.2.2.2.2.2.2.1, y.2.2.2.2.2.2.2.2.1, y.2.2.2.2.2.2.2.2.2.1, y.2.2.2.2.2.2.2.2.2.2.1, y.2.2.2.2.2.2.2.2.2.2.2.1, ())] ≤ 1466015503701) then some (Sum.inl (x0, x1, x2, x3, IntKind.wrap IntKind.i64 (x4 + Int.ofNat 1), x5 ++ [(y.1, y.2.1, y.2.2.1, y.2.2.2.1, y.2.2.2.2.1, y.2.2.2.2.2.1, y.2.2.2.2.2.2.1, y.2.2.2.2.2.2.2.1, y.2.2.2.2.2.2.2.2.1, y.2.2.2.2.2.2.2.2.2.1, y.2.2.2.2.2.2.2.2.2.2.1, y.2.2.2.2.2.2.2.2.2.2.2.1, ())], x6, x7, x8, x9, x10, x11, x12, x13, x14, x15, x16, x17, x18, x19, ())) else none else bif decide (List.length x5 + List.length [(y.1, y.2.1, y.2.2.1, y.2.2.2.1, y.2.2.2.2.1, y.2.2.2.2.2.1, x12, x13, x14, x15, x16, x17, ())] ≤ 1466015503701) then some (Sum.inl (x0, x1, x2, x3, IntKind.wrap IntKind.i64 (x4 + Int.ofNat 1), x5 ++ [(y.1, y.2.1, y.2.2.1, y.2.2.2.1, y.2.2.2.2.1, y.2.2.2.2.2.1, x12, x13, x14, x15, x16, x17, ())], x6, x7, x8, x9, x10, x11, x12, x13, x14, x15, x16, x17, x18, x19, ())) else none else Option.bind (F40 (y.2.2.2.2.2.2.1, y.2.2.2.2.2.2.2.1, y.2.2.2.2.2.2.2.2.1, y.2.2.2.2.2.2.2.2.2.1, y.2.2.2.2.2.2.2.2.2.2.1, y.2.2.2.2.2.2.2.2.2.2.2.1, x12, x13, x14, x15, x16, x17, ())) fun r => bif decide (r.1 < Int.ofNat 0) then bif decide (List.length x5 + List.length [(x6, x7, x8, x9, x10, x11, y.2.2.2.2.2.2.1, y.2.2.2.2.2.2.2.1, y.2.2.2.2.2.2.2.2.1, y.2.2.2.2.2.2.2.2.2.1, y.2.2.2.2.2.2.2.2.2.2.1, y.2.2.2.2.2.2.2.2.2.2.2.1, ())] ≤ 1466015503701) then some (Sum.inl (x0, x1, x2, x3, IntKind.wrap IntKind.i64 (x4 + Int.ofNat 1), x5 ++ [(x6, x7, x8, x9, x10, x11, y.2.2.2.2.2.2.1, y.2.2.2.2.2.2.2.1, y.2.2.2.2.2.2.2.2.1, y.2.2.2.2.2.2.2.2.2.1, y.2.2.2.2.2.2.2.2.2.2.1, y.2.2.2.2.2.2.2.2.2.2.2.1, ())], x6, x7, x8, x9, x10, x11, x12, x13, x14, x15, x16, x17, x18, x19, ())) else none else bif decide (List.length x5 + List.length [(x6, x7, x8, x9, x10, x11, x12, x13, x14, x15, x16, x17, ())] ≤ 1466015503701) then some (Sum.inl (x0, x1, x2, x3, IntKind.wrap IntKind.i64 (x4 + Int.ofNat 1), x5 ++ [(x6, x7, x8, x9, x10, x11, x12, x13, x14, x15, x16, x17, ())], x6, x7, x8, x9, x10, x11, x12, x13, x14, x15, x16, x17, x18, x19, ())) else none else none else some (Sum.inr (x0, x1, x2, x5, x18, ())) := by kernel_rfl
theorem B16_1_eq (x0 : List R7) (x1 x2 : Int) (x3 x4 : List R8) : B16_1 (x0, x1, x2, x3, x4, ()) =
  bif decide (x2 < x1) then bif decide (Int.ofNat 0 ≤ x2) && decide (x2 < Int.ofNat (List.length x4)) then Option.bind x4[Int.toNat x2]? fun y => Option.bind (F39 (x0, ())) fun r => Option.bind (loop B16_0 (x0, x1, x2, Int.ofNat (List.length r.1), Int.ofNat 0, x3, y.1, y.2.1, y.2.2.1, y.2.2.2.1, y.2.2.2.2.1, y.2.2.2.2.2.1, y.2.2.2.2.2.2.1, y.2.2.2.2.2.2.2.1, y.2.2.2.2.2.2.2.2.1, y.2.2.2.2.2.2.2.2.2.1, y.2.2.2.2.2.2.2.2.2.2.1, y.2.2.2.2.2.2.2.2.2.2.2.1, x4, r.1, ())) fun r => some (Sum.inl (r.1, r.2.1, IntKind.wrap IntKind.i64 (r.2.2.1 + Int.ofNat 1), r.2.2.2.1, r.2.2.2.2.1, ())) else none else some (Sum.inr (x3, ())) := by kernel_rfl
theorem F16_eq (x0 x1 : List R7) : F16 (x0, x1, ()) =
  Option.bind (F39 (x0, ())) fun r => Option.bind (loop B16_1 (x1, Int.ofNat (List.length r.1), Int.ofNat 0, [], r.1, ())) fun r => Option.bind (F41 (r.1, ())) fun r => some (r.1, ()) := by kernel_rfl
theorem F17_eq (x0 : List (List R7)) : F17 (x0, ()) =
  Option.bind (F42 (x0, ())) fun r => Option.bind (F39v1 (r.1, ())) fun r => Option.bind (F41 (r.2.1, ())) fun r => some (r.1, ()) := by kernel_rfl
theorem B18_0_eq (x0 x1 x2 x3 x4 : Int) (x5 : ByteArray) (x6 x7 : Bool) (x8 x9 : List R8) : B18_0 (x0, x1, x2, x3, x4, x5, x6, x7, x8, x9, ()) =
  bif decide (x1 < x0) then bif decide (Int.ofNat 0 ≤ x1) && decide (x1 < Int.ofNat (List.length x9)) then Option.bind x9[Int.toNat x1]? fun y => bif decide (List.length x8 + List.length [(x2, x3, x4, x5, x6, x7, y.1, y.2.1, y.2.2.1, y.2.2.2.1, y.2.2.2.2.1, y.2.2.2.2.2.1, ())] ≤ 1466015503701) then some (Sum.inl (x0, IntKind.wrap IntKind.i64 (x1 + Int.ofNat 1), y.2.2.2.2.2.2.1, y.2.2.2.2.2.2.2.1, y.2.2.2.2.2.2.2.2.1, y.2.2.2.2.2.2.2.2.2.1, y.2.2.2.2.2.2.2.2.2.2.1, y.2.2.2.2.2.2.2.2.2.2.2.1, x8 ++ [(x2, x3, x4, x5, x6, x7, y.1, y.2.1, y.2.2.1, y.2.2.2.1, y.2.2.2.2.1, y.2.2.2.2.2.1, ())], x9, ())) else none else none else some (Sum.inr (x2, x3, x4, x5, x6, x7, x8, ())) := by kernel_rfl
theorem F18_eq (x0 : List R7) : F18 (x0, ()) =
  Option.bind (F43 ()) fun r => Option.bind (F39 (x0, ())) fun r_1 => Option.bind (loop B18_0 (Int.ofNat (List.length r_1.1), Int.ofNat 0, r.1, r.2.1, r.2.2.1, r.2.2.2.1, false, false, [], r_1.1, ())) fun r => bif decide (List.length r.2.2.2.2.2.2.1 + List.length [(r.1, r.2.1, r.2.2.1, r.2.2.2.1, r.2.2.2.2.1, r.2.2.2.2.2.1, Int.ofNat 0, Int.ofNat 0, Int.ofNat 0, (lit []), false, true, ())] ≤ 1466015503701) then Option.bind (F41 (r.2.2.2.2.2.2.1 ++ [(r.1, r.2.1, r.2.2.1, r.2.2.2.1, r.2.2.2.2.1, r.2.2.2.2.2.1, Int.ofNat 0, Int.ofNat 0, Int.ofNat 0, (lit []), false, true, ())], ())) fun r => some (r.1, ()) else none := by kernel_rfl
theorem F81_eq (x0 x1 x2 : Int) (x3 : ByteArray) (x4 x5 : Bool) (x6 x7 x8 : Int) (x9 : ByteArray) (x10 x11 : Bool) : F81 (x0, x1, x2, x3, x4, x5, x6, x7, x8, x9, x10, x11, ()) =
  Option.bind (F41 ([(x0, x1, x2, x3, x4, x5, x6, x7, x8, x9, x10, x11, ())], ())) fun r => some (r.1, ()) := by kernel_rfl
theorem B98_0_eq (x0 x1 : List ByteArray) (x2 x3 x4 x5 : Int) : B98_0 (x0, x1, x2, x3, x4, x5, ()) =
  bif decide (x3 < x2) then bif decide (Int.ofNat 0 ≤ x3) then Option.bind x1[Int.toNat x3]? fun y => Option.bind (F103 (y, ())) fun r => bif !r.2.1 then some (Sum.inr (Sum.inl (false, ()))) else bif decide (r.1 > Int.ofNat 999999) then some (Sum.inr (Sum.inl (false, ()))) else bif x3 == Int.ofNat 0 then some (Sum.inl (x0, x1, x2, IntKind.wrap IntKind.i64 (x3 + Int.ofNat 1), r.1, x5, ())) else bif x3 == Int.ofNat 1 then some (Sum.inl (x0, x1, x2, IntKind.wrap IntKind.i64 (x3 + Int.ofNat 1), x4, r.1, ())) else none else none else some (Sum.inr (Sum.inr (x0, x4, x5, ()))) := by kernel_rfl
theorem F98_eq (x0 : ByteArray) : F98 (x0, ()) =
  Option.bind (F131 (x0, (lit [46, 120]), ())) fun r => Option.bind (F100 (r.1, (lit [118]), ())) fun r_1 => Option.bind (F102 (r_1.1, (lit [46]), ())) fun r_2 => bif !r.2.1 then some ([], false, ()) else bif !r_1.2.1 then some ([], false, ()) else bif decide (Int.ofNat (List.length r_2.1) > Int.ofNat 2) then some ([], false, ()) else Option.bind (loop B98_0 (r_2.1, r_2.1, Int.ofNat (List.length r_2.1), Int.ofNat 0, Int.ofNat 0, Int.ofNat 0, ())) fun r => Sum.elim (fun p => some ([], p.1, ())) (fun p => Option.bind (F132 (p.2.1, p.2.2.1, Int.ofNat 0, (lit [48]), IntKind.wrap IntKind.i64 (Int.ofNat (List.length p.1) - Int.ofNat 1), ())) fun r => Option.bind (F81 (p.2.1, p.2.2.1, Int.ofNat 0, (lit [48]), false, false, r.1, r.2.1, r.2.2.1, r.2.2.2.1, r.2.2.2.2.1, r.2.2.2.2.2.1, ())) fun r => some (r.1, true, ())) r := by kernel_rfl
theorem F99_eq (x0 : ByteArray) : F99 (x0, ()) =
  Option.bind (F133 (x0, Int.ofNat 118, ())) fun r => bif decide (r.1 < Int.ofNat 0) then some ([], false, ()) else bif decide (Int.ofNat 0 ≤ r.1) && (decide (r.1 ≤ Int.ofNat (ByteArray.size x0)) && decide (Int.ofNat (ByteArray.size x0) ≤ Int.ofNat (ByteArray.size x0))) then Option.bind (F80 (ByteArray.extract x0 (Int.toNat r.1) (Int.toNat (Int.ofNat (ByteArray.size x0))), ())) fun r_1 => bif !r_1.2.2.2.2.1 then some ([], false, ()) else bif decide (Int.ofNat 0 ≤ r.1) && decide (r.1 ≤ Int.ofNat (ByteArray.size x0)) then bif bl (ByteArray.extract x0 0 (Int.toNat r.1)) == [] then bif bl (ByteArray.extract x0 0 (Int.toNat r.1)) == [] then Option.bind (F81 (r_1.1, r_1.2.1, r_1.2.2.1, r_1.2.2.2.1, false, false, r_1.1, r_1.2.1, r_1.2.2.1, r_1.2.2.2.1, true, false, ())) fun r => some (r.1, true, ()) else bif bl (ByteArray.extract x0 0 (Int.toNat r.1)) == [33, 61] then Option.bind (F81 (r_1.1, r_1.2.1, r_1.2.2.1, r_1.2.2.2.1, false, false, r_1.1, r_1.2.1, r_1.2.2.1, r_1.2.2.2.1, true, false, ())) fun r => Option.bind (F18 (r.1, ())) fun r => some (r.1, true, ()) else bif bl (ByteArray.extract x0 0 (Int.toNat r.1)) == [62] then Option.bind (F134 ()) fun r => Option.bind (F81 (r_1.1, r_1.2.1, r_1.2.2.1, r_1.2.2.2.1, true, false, r.1, r.2.1, r.2.2.1, r.2.2.2.1, r.2.2.2.2.1, r.2.2.2.2.2.1, ())) fun r => some (r.1, true, ()) else bif bl (ByteArray.extract x0 0 (Int.toNat r.1)) == [62, 61] then Option.bind (F134 ()) fun r => Option.bind (F81 (r_1.1, r_1.2.1, r_1.2.2.1, r_1.2.2.2.1, false, false, r.1, r.2.1, r.2.2.1, r.2.2.2.1, r.2.2.2.2.1, r.2.2.2.2.2.1, ())) fun r => some (r.1, true, ()) else bif bl (ByteArray.extract x0 0 (Int.toNat r.1)) == [60] then Option.bind (F135 ()) fun r => Option.bind (F81 (r.1, r.2.1, r.2.2.1, r.2.2.2.1, r.2.2.2.2.1, r.2.2.2.2.2.1, r_1.1, r_1.2.1, r_1.2.2.1, r_1.2.2.2.1, false, false, ())) fun r => some (r.1, true, ()) else bif bl (ByteArray.extract x0 0 (Int.toNat r.1)) == [60, 61] then Option.bind (F135 ()) fun r => Option.bind (F81 (r.1, r.2.1, r.2.2.1, r.2.2.2.1, r.2.2.2.2.1, r.2.2.2.2.2.1, r_1.1, r_1.2.1, r_1.2.2.1, r_1.2.2.2.1, true, false, ())) fun r => some (r.1, true, ()) else bif bl (ByteArray.extract x0 0 (Int.toNat r.1)) == [94] then Option.bind (F136 (r_1.1, r_1.2.1, r_1.2.2.1, r_1.2.2.2.1, ())) fun r => Option.bind (F81 (r_1.1, r_1.2.1, r_1.2.2.1, r_1.2.2.2.1, false, false, r.1, r.2.1, r.2.2.1, r.2.2.2.1, r.2.2.2.2.1, r.2.2.2.2.2.1, ())) fun r => some (r.1, true, ()) else bif bl (ByteArray.extract x0 0 (Int.toNat r.1)) == [126] then Option.bind (F132 (r_1.1, r_1.2.1, r_1.2.2.1, r_1.2.2.2.1, Int.ofNat 1, ())) fun r => Option.bind (F81 (r_1.1, r_1.2.1, r_1.2.2.1, r_1.2.2.2.1, false, false, r.1, r.2.1, r.2.2.1, r.2.2.2.1, r.2.2.2.2.1, r.2.2.2.2.2.1, ())) fun r => some (r.1, true, ()) else some ([], false, ()) else bif bl (ByteArray.extract x0 0 (Int.toNat r.1)) == [61] then Option.bind (F81 (r_1.1, r_1.2.1, r_1.2.2.1, r_1.2.2.2.1, false, false, r_1.1, r_1.2.1, r_1.2.2.1, r_1.2.2.2.1, true, false, ())) fun r => some (r.1, true, ()) else bif bl (ByteArray.extract x0 0 (Int.toNat r.1)) == [33, 61] then Option.bind (F81 (r_1.1, r_1.2.1, r_1.2.2.1, r_1.2.2.2.1, false, false, r_1.1, r_1.2.1, r_1.2.2.1, r_1.2.2.2.1, true, false, ())) fun r => Option.bind (F18 (r.1, ())) fun r => some (r.1, true, ()) else bif bl (ByteArray.extract x0 0 (Int.toNat r.1)) == [62] then Option.bind (F134 ()) fun r => Option.bind (F81 (r_1.1, r_1.2.1, r_1.2.2.1, r_1.2.2.2.1, true, false, r.1, r.2.1, r.2.2.1, r.2.2.2.1, r.2.2.2.2.1, r.2.2.2.2.2.1, ())) fun r => some (r.1, true, ()) else bif bl (ByteArray.extract x0 0 (Int.toNat r.1)) == [62, 61] then Option.bind (F134 ()) fun r => Option.bind (F81 (r_1.1, r_1.2.1, r_1.2.2.1, r_1.2.2.2.1, false, false, r.1, r.2.1, r.2.2.1, r.2.2.2.1, r.2.2.2.2.1, r.2.2.2.2.2.1, ())) fun r => some (r.1, true, ()) else bif bl (ByteArray.extract x0 0 (Int.toNat r.1)) == [60] then Option.bind (F135 ()) fun r => Option.bind (F81 (r.1, r.2.1, r.2.2.1, r.2.2.2.1, r.2.2.2.2.1, r.2.2.2.2.2.1, r_1.1, r_1.2.1, r_1.2.2.1, r_1.2.2.2.1, false, false, ())) fun r => some (r.1, true, ()) else bif bl (ByteArray.extract x0 0 (Int.toNat r.1)) == [60, 61] then Option.bind (F135 ()) fun r => Option.bind (F81 (r.1, r.2.1, r.2.2.1, r.2.2.2.1, r.2.2.2.2.1, r.2.2.2.2.2.1, r_1.1, r_1.2.1, r_1.2.2.1, r_1.2.2.2.1, true, false, ())) fun r => some (r.1, true, ()) else bif bl (ByteArray.extract x0 0 (Int.toNat r.1)) == [94] then Option.bind (F136 (r_1.1, r_1.2.1, r_1.2.2.1, r_1.2.2.2.1, ())) fun r => Option.bind (F81 (r_1.1, r_1.2.1, r_1.2.2.1, r_1.2.2.2.1, false, false, r.1, r.2.1, r.2.2.1, r.2.2.2.1, r.2.2.2.2.1, r.2.2.2.2.2.1, ())) fun r => some (r.1, true, ()) else bif bl (ByteArray.extract x0 0 (Int.toNat r.1)) == [126] then Option.bind (F132 (r_1.1, r_1.2.1, r_1.2.2.1, r_1.2.2.2.1, Int.ofNat 1, ())) fun r => Option.bind (F81 (r_1.1, r_1.2.1, r_1.2.2.1, r_1.2.2.2.1, false, false, r.1, r.2.1, r.2.2.1, r.2.2.2.1, r.2.2.2.2.1, r.2.2.2.2.2.1, ())) fun r => some (r.1, true, ()) else some ([], false, ()) else none else none := by kernel_rfl
theorem F79_eq (x0 : ByteArray) : F79 (x0, ()) =
  bif bl x0 == [42] then Option.bind (F77 ()) fun r => some (r.1, true, ()) else Option.bind (F98 (x0, ())) fun r => bif r.2.1 then some (r.1, true, ()) else Option.bind (F99 (x0, ())) fun r => some (r.1, r.2.1, ()) := by kernel_rfl
theorem B51_0_eq (x0 : List R7) (x1 : Bool) (x2 : Int) (x3 x4 : ByteArray) (x5 : Int) (x6 : ByteArray) (x7 : Int) : B51_0 (x0, x1, x2, x3, x4, x5, x6, x7, ()) =
  bif x1 then Option.bind (F79 (x4, ())) fun r => bif !r.2.1 then some (Sum.inr (Sum.inl ([], false, x3, x4, x5, x6, x7, ()))) else Option.bind (F80 (x4, ())) fun r_1 => Option.bind (F78 (x3, x4, x5, x6, x7, ())) fun r_2 => bif r_1.2.2.2.2.1 then bif r_2.1 then bif bl r_2.2.2.1 == [45] then Option.bind (F78 (r_2.2.1, r_2.2.2.1, r_2.2.2.2.1, r_2.2.2.2.2.1, r_2.2.2.2.2.2.1, ())) fun r => bif !r.1 then some (Sum.inr (Sum.inl ([], false, r.2.1, r.2.2.1, r.2.2.2.1, r.2.2.2.2.1, r.2.2.2.2.2.1, ()))) else Option.bind (F80 (r.2.2.1, ())) fun r_3 => bif !r_3.2.2.2.2.1 then some (Sum.inr (Sum.inl ([], false, r.2.1, r.2.2.1, r.2.2.2.1, r.2.2.2.2.1, r.2.2.2.2.2.1, ()))) else Option.bind (F81 (r_1.1, r_1.2.1, r_1.2.2.1, r_1.2.2.2.1, false, false, r_3.1, r_3.2.1, r_3.2.2.1, r_3.2.2.2.1, true, false, ())) fun r_4 => Option.bind (F78 (r.2.1, r.2.2.1, r.2.2.2.1, r.2.2.2.2.1, r.2.2.2.2.2.1, ())) fun r => Option.bind (F16 (x0, r_4.1, ())) fun r_5 => bif !r.1 then some (Sum.inr (Sum.inl (r_5.1, true, r.2.1, r.2.2.1, r.2.2.2.1, r.2.2.2.2.1, r.2.2.2.2.2.1, ()))) else some (Sum.inl (r_5.1, r.1, IntKind.wrap IntKind.i64 (x2 + Int.ofNat 1), r.2.1, r.2.2.1, r.2.2.2.1, r.2.2.2.2.1, r.2.2.2.2.2.1, ())) else Option.bind (F16 (x0, r.1, ())) fun r => bif !r_2.1 then some (Sum.inr (Sum.inl (r.1, true, r_2.2.1, r_2.2.2.1, r_2.2.2.2.1, r_2.2.2.2.2.1, r_2.2.2.2.2.2.1, ()))) else some (Sum.inl (r.1, r_2.1, IntKind.wrap IntKind.i64 (x2 + Int.ofNat 1), r_2.2.1, r_2.2.2.1, r_2.2.2.2.1, r_2.2.2.2.2.1, r_2.2.2.2.2.2.1, ())) else Option.bind (F16 (x0, r.1, ())) fun r => bif !r_2.1 then some (Sum.inr (Sum.inl (r.1, true, r_2.2.1, r_2.2.2.1, r_2.2.2.2.1, r_2.2.2.2.2.1, r_2.2.2.2.2.2.1, ()))) else some (Sum.inl (r.1, r_2.1, IntKind.wrap IntKind.i64 (x2 + Int.ofNat 1), r_2.2.1, r_2.2.2.1, r_2.2.2.2.1, r_2.2.2.2.2.1, r_2.2.2.2.2.2.1, ())) else Option.bind (F16 (x0, r.1, ())) fun r => bif !r_2.1 then some (Sum.inr (Sum.inl (r.1, true, r_2.2.1, r_2.2.2.1, r_2.2.2.2.1, r_2.2.2.2.2.1, r_2.2.2.2.2.2.1, ()))) else some (Sum.inl (r.1, r_2.1, IntKind.wrap IntKind.i64 (x2 + Int.ofNat 1), r_2.2.1, r_2.2.2.1, r_2.2.2.2.1, r_2.2.2.2.2.1, r_2.2.2.2.2.2.1, ())) else some (Sum.inr (Sum.inr (x3, x4, x5, x6, x7, ()))) := by kernel_rfl
theorem F51_eq (x0 x1 : ByteArray) (x2 : Int) (x3 : ByteArray) (x4 : Int) : F51 (x0, x1, x2, x3, x4, ()) =
  Option.bind (F77 ()) fun r => Option.bind (F78 (x0, x1, x2, x3, x4, ())) fun r_1 => Option.bind (loop B51_0 (r.1, r_1.1, Int.ofNat 0, r_1.2.1, r_1.2.2.1, r_1.2.2.2.1, r_1.2.2.2.2.1, r_1.2.2.2.2.2.1, ())) fun r => Sum.elim (fun p => some (p.1, p.2.1, p.2.2.1, p.2.2.2.1, p.2.2.2.2.1, p.2.2.2.2.2.1, p.2.2.2.2.2.2.1, ())) (fun p => some ([], false, p.1, p.2.1, p.2.2.1, p.2.2.2.1, p.2.2.2.2.1, ())) r := by kernel_rfl
theorem B30_0_eq (x0 : ByteArray) (x1 : List R7) (x2 x3 : ByteArray) (x4 : Int) (x5 : ByteArray) (x6 : Int) : B30_0 (x0, x1, x2, x3, x4, x5, x6, ()) =
  Option.bind (F51 (x2, x3, x4, x5, x6, ())) fun r => bif !r.2.1 then some (Sum.inr ([], r.2.2.2.2.1, Int.ofNat 6, ())) else Option.bind (F17 ([x1, r.1], ())) fun r_1 => bif r.2.2.2.2.1 == Int.ofNat (ByteArray.size x0) then some (Sum.inr (r_1.1, Int.ofNat 0, Int.ofNat 0, ())) else Option.bind (F52 ((lit [124, 124]), r.2.2.2.2.2.1, r.2.2.2.2.2.2.1, ())) fun r_2 => bif !r_2.1 then some (Sum.inr ([], IntKind.wrap IntKind.i64 (r.2.2.2.2.1 + Int.ofNat 1), Int.ofNat 6, ())) else some (Sum.inl (x0, r_1.1, r.2.2.1, r.2.2.2.1, r.2.2.2.2.1, r_2.2.1, r_2.2.2.1, ())) := by kernel_rfl
theorem F30_eq (x0 : ByteArray) : F30 (x0, ()) =
  Option.bind (F50 (x0, ())) fun r => Option.bind (loop B30_0 (x0, [], x0, (lit []), Int.ofNat 0, r.1, r.2.1, ())) fun r => some (r.1, r.2.1, r.2.2.1, ()) := by kernel_rfl
end Go.Vx.Z
/-! span: pieces, normed. -/
namespace Go.Vx.Z
open Go Go.Vx
set_option linter.unusedVariables false
abbrev big : Nat := 1099511627776
def Span.lo (s : Span) : Ver := (s.1, s.2.1, s.2.2.1, s.2.2.2.1, ())
def Span.hi (s : Span) : Ver := (s.2.2.2.2.1, s.2.2.2.2.2.1, s.2.2.2.2.2.2.1, s.2.2.2.2.2.2.2.1, ())
def Span.isIn (s : Span) : Bool := s.2.2.2.2.2.2.2.2.2.1
def Span.op (s : Span) : Bool := s.2.2.2.2.2.2.2.2.2.2.1
def pieceOf (y : Span) : Piece := bif y.2.2.2.2.2.2.2.2.2.2.1 then (y.1, y.2.1, y.2.2.1, y.2.2.2.1, y.2.2.2.2.2.2.2.2.1, false, Int.ofNat 0, Int.ofNat 0, Int.ofNat 0, (lit []), false, true, ())
  else (y.1, y.2.1, y.2.2.1, y.2.2.2.1, y.2.2.2.2.2.2.2.2.1, false, y.2.2.2.2.1, y.2.2.2.2.2.1, y.2.2.2.2.2.2.1, y.2.2.2.2.2.2.2.1, y.2.2.2.2.2.2.2.2.2.1, false, ())
theorem one_le {α : Type} {b : List α} {N : Nat} (z : α) (h : b.length < N) : decide (b.length + List.length [z] ≤ N) = true := by simp; omega
theorem F39_is (l : List Span) (hl : l.length ≤ big) : F39 (l, ()) = some (l.map pieceOf, ()) := by
  rw [F39_eq]
  have := loop_map (B := B39_0) l (fun i b => (l, Int.ofNat l.length, (i : Int), b, ())) pieceOf (fun b => (b, ())) (fun i h b hb => by
    rw [B39_0_eq]
    simp only [lt_in h, cond_true, ge_zero, at_in h, Option.bind_some, wrap_next h (by simp only [big] at hl; omega), one_le _ (show b.length < 1466015503701 by simp only [big] at hl; omega)]
    unfold pieceOf
    cases l[i].2.2.2.2.2.2.2.2.2.2.1 <;> rfl) (fun b hb => by
    rw [B39_0_eq]
    simp only [lt_out, cond_false])
  have h0 : loop B39_0 (l, Int.ofNat l.length, Int.ofNat 0, [], ()) = some (l.map pieceOf, ()) := this
  rw [h0]
  rfl
theorem F39v1_is (l : List Span) (hl : l.length ≤ big) : F39v1 (l, ()) = some (l, l.map pieceOf, ()) := by
  rw [F39v1_eq]
  have := loop_map (B := B39v1_0) l (fun i b => (Int.ofNat l.length, (i : Int), l, b, ())) pieceOf (fun b => (l, b, ())) (fun i h b hb => by
    rw [B39v1_0_eq]
    simp only [lt_in h, cond_true, ge_zero, Bool.and_self, at_in h, Option.bind_some, wrap_next h (by simp only [big] at hl; omega), one_le _ (show b.length < 1466015503701 by simp only [big] at hl; omega)]
    unfold pieceOf
    cases l[i].2.2.2.2.2.2.2.2.2.2.1 <;> rfl) (fun b hb => by
    rw [B39v1_0_eq]
    simp only [lt_out, cond_false])
  have h0 : loop B39v1_0 (Int.ofNat l.length, Int.ofNat 0, l, [], ()) = some (l, l.map pieceOf, ()) := this
  rw [h0]
  rfl
def dead (p : Piece) : Bool := !decide (p.fp < p.tp)
theorem F69_is (p : Piece) (h : okPc p = true) : F69 (p.1, p.2.1, p.2.2.1, p.2.2.2.1, p.2.2.2.2.1, p.2.2.2.2.2.1, p.2.2.2.2.2.2.1, p.2.2.2.2.2.2.2.1, p.2.2.2.2.2.2.2.2.1, p.2.2.2.2.2.2.2.2.2.1, p.2.2.2.2.2.2.2.2.2.2.1, p.2.2.2.2.2.2.2.2.2.2.2.1, ()) = some (dead p, ()) := by
  simp only [okPc, Bool.and_eq_true] at h
  rw [F69_eq]
  have := F40_is p.fv p.tv p.fb p.fe p.tb p.te h.1 h.2
  simp only [Piece.fv, Piece.tv, Piece.fb, Piece.fe, Piece.tb, Piece.te] at this
  rw [this]
  have key : ∀ c : Int, decide (c ≥ Int.ofNat 0) = !decide (c < 0) := fun c => by
    by_cases h : c < 0
    · have h2 : ¬ c ≥ Int.ofNat 0 := by intro h3; have : (0 : Int) ≤ c := h3; omega
      rw [decide_eq_true h, decide_eq_false h2]; rfl
    · have h2 : c ≥ Int.ofNat 0 := by show (0 : Int) ≤ c; omega
      rw [decide_eq_false h, decide_eq_true h2]; rfl
  simp only [Option.bind_some, key]
  rfl
theorem F74_is (l : List Piece) (hp : ∀ p ∈ l, okPc p = true) (hl : l.length ≤ big) : F74 (l, ()) = some (if l.findIdx dead < l.length then (l.findIdx dead : Int) else -1, l, ()) := by
  rw [F74_eq]
  have := loop_at (B := B74_0) l (fun i => (Int.ofNat l.length, (i : Int), l, ())) dead (fun i => .inl ((i : Int), l, ())) (.inr (l, ())) (fun i h => by
    rw [B74_0_eq]
    simp only [lt_in h, cond_true, ge_zero, Bool.and_self, at_in h, Option.bind_some, wrap_next h (by simp only [big] at hl; omega)]
    rw [F69_is _ (hp _ (List.getElem_mem h))]
    simp only [Option.bind_some]
    cases dead l[i] <;> rfl) (by
    rw [B74_0_eq]
    simp only [lt_out, cond_false])
  have h0 : loop B74_0 (Int.ofNat l.length, Int.ofNat 0, l, ()) = _ := this
  rw [h0]
  simp only [Option.bind_some]
  split <;> rfl
def full (p : Piece) : Bool := !dead p
theorem set_take {α : Type} {r : List α} {i : Nat} (z : α) (h : i < r.length) : (r.set i z).take (i + 1) = r.take i ++ [z] := by
  rw [List.take_succ_eq_append_getElem (by rw [List.length_set]; exact h), List.take_set_of_le (Nat.le_refl _)]
  simp
theorem B68_is (l : List Piece) (hp : ∀ p ∈ l, okPc p = true) (hl : l.length ≤ big) (k : Nat) (hk : k < l.length) (hd : dead l[k] = true) (hf : ∀ p ∈ l.take k, full p = true) :
    ∃ r : List Piece, loop B68_0 ((k : Int), ((k + 1 : Nat) : Int), l, ()) = some ((((l.filter full).length : Nat) : Int), r, ()) ∧ r.take (l.filter full).length = l.filter full ∧ r.length = l.length := by
  obtain ⟨b, h1, h2, h3, h4, h5⟩ := loop_upto (B := B68_0) l.length (fun j (b : Nat × List Piece) => ((b.1 : Int), (j : Int), b.2, ())) (fun b => ((b.1 : Int), b.2, ()))
    (fun j b => b.1 < j ∧ b.2.length = l.length ∧ b.2.take b.1 = (l.take j).filter full ∧ b.2.drop j = l.drop j)
    (fun j hj b ⟨i1, i2, i3, i4⟩ => by
      obtain ⟨i, r⟩ := b
      simp only at i1 i2 i3 i4
      have hjr : j < r.length := by omega
      have hrj : r[j] = l[j] := by
        have e1 := List.drop_eq_getElem_cons hjr
        have e2 := List.drop_eq_getElem_cons hj
        rw [i4, e2] at e1
        injection e1 with e1 _
        exact e1.symm
      have hdrop : r.drop (j + 1) = l.drop (j + 1) := by rw [← List.drop_drop, ← List.drop_drop, i4]
      have htake : (l.take (j + 1)).filter full = (l.take j).filter full ++ [l[j]].filter full := by
        rw [List.take_succ_eq_append_getElem hj, List.filter_append]
      have hw := wrap_next (i := j) (n := l.length) hj (by simp only [big] at hl; omega)
      simp only
      rw [B68_0_eq]
      simp only [lt_in hjr, cond_true, ge_zero, Bool.and_self, at_in hjr, Option.bind_some, hrj]
      rw [F69_is _ (hp _ (List.getElem_mem hj))]
      simp only [Option.bind_some, hw]
      cases hc : dead l[j] with
      | true =>
        simp only [Bool.not_true, cond_false]
        refine ⟨(i, r), rfl, by simp only; omega, i2, ?_, hdrop⟩
        rw [htake, i3]
        simp [full, hc]
      | false =>
        have hir : i < r.length := by omega
        simp only [Bool.not_false, cond_true, lt_in hir, ge_zero, Bool.and_self, at_in hir, Option.bind_some, wrap_next (i := i) (n := l.length) (by omega) (by simp only [big] at hl; omega), Int.toNat_natCast, List.getElem?_eq_getElem hir]
        refine ⟨(i + 1, r.set i l[j]), rfl, by simp only; omega, by simp [i2], ?_, ?_⟩
        · simp only
          rw [set_take _ hir, i3, htake]
          simp [full, hc]
        · simp only
          rw [List.drop_set_of_lt (by omega), hdrop])
    (fun b ⟨i1, i2, i3, i4⟩ => by
      rw [B68_0_eq]
      have : Int.ofNat b.2.length = Int.ofNat l.length := by rw [i2]
      simp only [this, lt_out, cond_false])
    (k + 1) (k, l) (by omega) ⟨by simp only; omega, rfl, by
      rw [List.take_succ_eq_append_getElem hk, List.filter_append, List.filter_eq_self.2 hf]
      simp [full, hd], rfl⟩
  rw [List.take_length] at h4
  have hb : b.1 = (l.filter full).length := by rw [← h4, List.length_take]; omega
  refine ⟨b.2, ?_, by rw [← hb]; exact h4, h3⟩
  rw [← hb]
  exact h1
theorem F68_is (l : List Piece) (hp : ∀ p ∈ l, okPc p = true) (hl : l.length ≤ big) : ∃ r : List Piece, F68 (l, ()) = some (0, (l.filter full).length, r, ()) ∧ r.take (l.filter full).length = l.filter full ∧ (l.filter full).length ≤ r.length := by
  rw [F68_eq, F74_is l hp hl]
  simp only [Option.bind_some]
  by_cases h : l.findIdx dead < l.length
  · rw [if_pos h]
    have h1 : ((l.findIdx dead : Int) == Int.negSucc 0) = false := by simp
    rw [h1]
    simp only [cond_false]
    have hd : dead l[l.findIdx dead] = true := List.findIdx_getElem (w := h)
    obtain ⟨r, h2, h3, h4⟩ := B68_is l hp hl _ h hd (fun p hp' => by
      obtain ⟨i, hi, he⟩ := List.getElem_of_mem hp'
      rw [List.getElem_take] at he
      rw [List.length_take] at hi
      have := List.not_of_lt_findIdx (p := dead) (xs := l) (i := i) (by omega)
      subst he
      simpa [full] using this)
    have hw := wrap_next (i := l.findIdx dead) (n := l.length) h (by simp only [big] at hl; omega)
    rw [hw, h2]
    simp only [Option.bind_some]
    have hle : (l.filter full).length ≤ l.length := List.length_filter_le _ _
    generalize hn : (l.filter full).length = n at *
    have hz : (0 + Int.toNat (Int.ofNat r.length) - (0 + Int.toNat (n : Int))) = r.length - n := by simp
    have hlen : (List.take (0 + Int.toNat (n : Int)) r ++ List.replicate (0 + Int.toNat (Int.ofNat r.length) - (0 + Int.toNat (n : Int))) ((Int.ofNat 0, Int.ofNat 0, Int.ofNat 0, (lit []), false, false, Int.ofNat 0, Int.ofNat 0, Int.ofNat 0, (lit []), false, false, ()) : R8) ++ List.drop (0 + Int.toNat (n : Int) + (0 + Int.toNat (Int.ofNat r.length) - (0 + Int.toNat (n : Int)))) r).length = r.length := by
      rw [hz]
      simp only [List.length_append, List.length_take, List.length_replicate, List.length_drop, Int.toNat_natCast]
      omega
    rw [hlen]
    have e1 : (decide (Int.ofNat 0 ≤ (n : Int)) && (decide ((n : Int) ≤ Int.ofNat r.length) && (decide (Int.ofNat r.length ≤ Int.ofNat r.length) && decide (Int.ofNat r.length ≤ Int.ofNat r.length)))) = true := by simp <;> omega
    simp only [e1, cond_true]
    have e2 : (decide (Int.ofNat 0 ≤ (n : Int)) && (decide ((n : Int) ≤ Int.ofNat r.length) && decide (Int.ofNat r.length ≤ Int.ofNat r.length))) = true := by simp <;> omega
    simp only [e2, cond_true]
    have e3 : 0 + Int.toNat (n : Int) = n := by simp
    simp only [e3] at hlen ⊢
    refine ⟨_, rfl, ?_, by rw [hlen]; omega⟩
    have : (List.take n r).length = n := by simp; omega
    rw [List.append_assoc, List.take_append_of_le_length (by omega), List.take_take, Nat.min_self]
    exact h3
  · rw [if_neg h]
    have hall : l.filter full = l := List.filter_eq_self.2 fun p hp' => by
      cases hc : dead p with
      | false => simp [full, hc]
      | true => exact absurd (List.findIdx_lt_length_of_exists ⟨p, hp', hc⟩) h
    refine ⟨l, ?_, by rw [hall, List.take_length], by rw [hall]; exact Nat.le_refl _⟩
    rw [hall]
    rfl
end Go.Vx.Z
/-! span: normed. -/
namespace Go.Vx.Z
open Go Go.Vx
set_option linter.unusedVariables false
def okP (p : Piece) : Prop := okPc p = true ∧ (p.te = true → p.tv = v0 ∧ p.tb = false)
def good (p : Piece) : Prop := okP p ∧ p.fe = false
def setTo (q p : Piece) : Piece := (q.1, q.2.1, q.2.2.1, q.2.2.2.1, q.2.2.2.2.1, q.2.2.2.2.2.1, p.2.2.2.2.2.2.1, p.2.2.2.2.2.2.2.1, p.2.2.2.2.2.2.2.2.1, p.2.2.2.2.2.2.2.2.2.1, p.2.2.2.2.2.2.2.2.2.2.1, p.2.2.2.2.2.2.2.2.2.2.2.1, ())
def mrgD (acc : List Piece) (p : Piece) : List Piece := match acc.getLast? with
  | none => acc ++ [p]
  | some q => if p.fp ≤ q.tp then (if q.tp < p.tp then acc.dropLast ++ [setTo q p] else acc) else acc ++ [p]
theorem mrgD_map (acc : List Piece) (p : Piece) : (mrgD acc p).map Piece.pp = Pc.mrg (acc.map Piece.pp) p.pp := by
  unfold mrgD Pc.mrg
  rcases List.eq_nil_or_concat acc with rfl | ⟨a, q, rfl⟩
  · rfl
  · simp only [List.concat_eq_append, List.map_append, List.map_cons, List.map_nil, List.getLast?_append, List.getLast?_singleton, Option.some_or, List.dropLast_concat]
    show List.map Piece.pp (if p.fp ≤ q.tp then _ else _) = if p.fp ≤ q.tp then (if q.tp < p.tp then _ else _) else _
    split
    · split
      · simp; rfl
      · simp
    · simp
theorem fold_map : ∀ (s acc : List Piece), (s.foldl mrgD acc).map Piece.pp = (s.map Piece.pp).foldl Pc.mrg (acc.map Piece.pp)
  | [], acc => rfl
  | p :: s, acc => by rw [List.foldl_cons, fold_map s, List.map_cons, List.foldl_cons, mrgD_map]
theorem mrgD_mem {acc : List Piece} {p : Piece} (ha : ∀ q ∈ acc, good q) (hp : good p) : ∀ q ∈ mrgD acc p, good q := by
  intro r hr
  unfold mrgD at hr
  have happ : r ∈ acc ++ [p] → good r := fun h => by
    rcases List.mem_append.1 h with h | h
    · exact ha r h
    · rw [List.mem_singleton.1 h]; exact hp
  split at hr
  · exact happ hr
  · rename_i q hq
    have hqa := ha q (List.mem_of_getLast? hq)
    split at hr
    · split at hr
      · rcases List.mem_append.1 hr with h | h
        · exact ha r (List.dropLast_subset _ h)
        · rw [List.mem_singleton.1 h]
          obtain ⟨⟨h1, h2⟩, h3⟩ := hqa
          obtain ⟨⟨h4, h5⟩, h6⟩ := hp
          simp only [okPc, Bool.and_eq_true] at h1 h4
          refine ⟨⟨?_, h5⟩, h3⟩
          simp only [okPc, Bool.and_eq_true]
          exact ⟨h1.1, h4.2⟩
      · exact ha r hr
    · exact happ hr
theorem fold_mem : ∀ (s acc : List Piece), (∀ q ∈ acc, good q) → (∀ q ∈ s, good q) → ∀ q ∈ s.foldl mrgD acc, good q
  | [], acc, ha, _ => ha
  | p :: s, acc, ha, hs => fold_mem s _ (mrgD_mem ha (hs p (by simp))) fun q hq => hs q (by simp [hq])
def spanOf (p : Piece) : Span := (p.1, p.2.1, p.2.2.1, p.2.2.2.1, p.2.2.2.2.2.2.1, p.2.2.2.2.2.2.2.1, p.2.2.2.2.2.2.2.2.1, p.2.2.2.2.2.2.2.2.2.1, p.2.2.2.2.1, p.2.2.2.2.2.2.2.2.2.2.1, p.2.2.2.2.2.2.2.2.2.2.2.1, ())
def spanP (p : Pt × Pt) : Span := (p.1.v.1, p.1.v.2.1, p.1.v.2.2.1, p.1.v.2.2.2.1, p.2.v.1, p.2.v.2.1, p.2.v.2.2.1, p.2.v.2.2.2.1, decide (p.1.b = 1), decide (p.2.b = 1), decide (p.2.e = 1), ())
theorem spanOf_eq {p : Piece} (h : good p) : spanOf p = spanP p.pp := by
  obtain ⟨⟨_, h1⟩, h2⟩ := h
  obtain ⟨a, b, c, d, fb, fe, a', b', c', d', tb, te, u⟩ := p
  simp only [Piece.te, Piece.tv, Piece.tb] at h1
  simp only [Piece.fe] at h2
  subst h2
  simp only [spanP, Piece.pp, Piece.fp, Piece.tp, Piece.fv, Piece.tv, Piece.fb, Piece.fe, Piece.tb, Piece.te, ptOf, spanOf]
  cases te with
  | true =>
    obtain ⟨h3, h4⟩ := h1 rfl
    simp only [v0, Prod.mk.injEq] at h3
    obtain ⟨rfl, rfl, rfl, rfl, _⟩ := h3
    subst h4
    cases fb <;> rfl
  | false => cases fb <;> cases tb <;> rfl
theorem pt_top (v : Ver) (b e : Bool) (w : Ver) (c f : Bool) (h : ptOf v b e < ptOf w c f) : e = false := by
  cases e with
  | false => rfl
  | true =>
    rw [pt_lt] at h
    unfold ptOf at h
    cases f with
    | true => simp only [if_true, lin_pt.self] at h; omega
    | false =>
      have : Pt.c (if true = true then ⟨1, v0, 0⟩ else ⟨0, v, if b = true then 1 else 0⟩) (if false = true then ⟨1, v0, 0⟩ else ⟨0, w, if c = true then 1 else 0⟩) = 1 := rfl
      rw [this] at h; omega
theorem full_lt {p : Piece} : full p = true ↔ p.fp < p.tp := by simp [full, dead]
theorem full_good {p : Piece} (h : okP p) (hf : full p = true) : good p := ⟨h, pt_top _ _ _ _ _ _ (full_lt.1 hf)⟩
theorem gt_lt (a b : Pt) : decide (a.c b > Int.ofNat 0) = decide (b < a) := by
  congr 1
  rw [pt_lt, lin_pt.anti a b]
  exact propext ⟨fun h => by have h : (0 : Int) < a.c b := h; omega, fun h => by show (0 : Int) < a.c b; omega⟩
theorem le_le (a b : Pt) : decide (a.c b ≤ Int.ofNat 0) = decide (a ≤ b) := rfl
theorem wrap_len {n : Nat} (h : n ≤ big) : IntKind.wrap IntKind.i64 (Int.ofNat n - Int.ofNat 1) = (n : Int) - 1 := by
  show IntKind.wrap IntKind.i64 ((n : Int) - 1) = _
  simp only [big] at h
  exact wrap64 (by omega) (by omega)
theorem set_last {α : Type} (a : List α) (q z : α) : (a ++ [q]).set a.length z = a ++ [z] := by
  rw [List.set_append_right _ _ (Nat.le_refl _)]; simp
theorem ord_ft (p q : Piece) (hp : okPc p = true) (hq : okPc q = true) : F40 (p.1, p.2.1, p.2.2.1, p.2.2.2.1, p.2.2.2.2.1, p.2.2.2.2.2.1, q.2.2.2.2.2.2.1, q.2.2.2.2.2.2.2.1, q.2.2.2.2.2.2.2.2.1, q.2.2.2.2.2.2.2.2.2.1, q.2.2.2.2.2.2.2.2.2.2.1, q.2.2.2.2.2.2.2.2.2.2.2.1, ()) = some ((p.fp).c q.tp, ()) := by
  simp only [okPc, Bool.and_eq_true] at hp hq
  exact F40_is p.fv q.tv p.fb p.fe q.tb q.te hp.1 hq.2
theorem ord_tt (p q : Piece) (hp : okPc p = true) (hq : okPc q = true) : F40 (p.2.2.2.2.2.2.1, p.2.2.2.2.2.2.2.1, p.2.2.2.2.2.2.2.2.1, p.2.2.2.2.2.2.2.2.2.1, p.2.2.2.2.2.2.2.2.2.2.1, p.2.2.2.2.2.2.2.2.2.2.2.1, q.2.2.2.2.2.2.1, q.2.2.2.2.2.2.2.1, q.2.2.2.2.2.2.2.2.1, q.2.2.2.2.2.2.2.2.2.1, q.2.2.2.2.2.2.2.2.2.2.1, q.2.2.2.2.2.2.2.2.2.2.2.1, ()) = some ((p.tp).c q.tp, ()) := by
  simp only [okPc, Bool.and_eq_true] at hp hq
  exact F40_is p.tv q.tv p.tb p.te q.tb q.te hp.2 hq.2
theorem ord_ff (p q : Piece) (hp : okPc p = true) (hq : okPc q = true) : F40 (p.1, p.2.1, p.2.2.1, p.2.2.2.1, p.2.2.2.2.1, p.2.2.2.2.2.1, q.1, q.2.1, q.2.2.1, q.2.2.2.1, q.2.2.2.2.1, q.2.2.2.2.2.1, ()) = some ((p.fp).c q.fp, ()) := by
  simp only [okPc, Bool.and_eq_true] at hp hq
  exact F40_is p.fv q.fv p.fb p.fe q.fb q.fe hp.1 hq.1
theorem B41_0_is (s rest : List Piece) (hs : ∀ p ∈ s, okPc p = true) (hl : s.length ≤ big) :
    loop B41_0 (0, s.length, Int.ofNat (s.length - 0), Int.ofNat 0, s ++ rest, [], ()) = some (s ++ rest, s.foldl mrgD [], ()) := by
  have := loop_fold (B := B41_0) s (fun i (b : List Piece) => (0, s.length, Int.ofNat (s.length - 0), (i : Int), s ++ rest, b, ())) mrgD (fun b => (s ++ rest, b, ())) [] (fun i b => b.length ≤ i ∧ ∀ q ∈ b, okPc q = true) ⟨Nat.le_refl _, by simp⟩
    (fun i h b ⟨hb, hq⟩ => by
      have hidx : (s ++ rest)[0 + Int.toNat (i : Int)]? = some s[i] := by
        rw [Nat.zero_add, Int.toNat_natCast, List.getElem?_append_left h, List.getElem?_eq_getElem h]
      have hp := hs _ (List.getElem_mem h)
      generalize hpe : s[i] = p at *
      have hw := wrap_next h (by simp only [big] at hl; omega)
      have hone := one_le (b := b) (N := 1466015503701) p (by simp only [big] at hl; omega)
      have hpp := hp
      simp only [okPc, Bool.and_eq_true] at hp
      rw [B41_0_eq]
      simp only [Nat.sub_zero, lt_in h, cond_true, ge_zero, Bool.and_self, hidx, Option.bind_some, hw]
      have happ : b.length ≤ i → (b ++ [p]).length ≤ i + 1 := fun h => by simp; omega
      have hmem : ∀ q ∈ b ++ [p], okPc q = true := fun q h => by
        rcases List.mem_append.1 h with h | h
        · exact hq q h
        · rw [List.mem_singleton.1 h]; exact hpp
      rcases List.eq_nil_or_concat b with rfl | ⟨a, q, rfl⟩
      · have : decide (IntKind.wrap IntKind.i64 (Int.ofNat ([] : List Piece).length - Int.ofNat 1) ≥ Int.ofNat 0) = false := rfl
        rw [this]
        simp only [cond_false]
        erw [hone]
        exact ⟨rfl, by simp [mrgD], by simpa [mrgD] using hmem⟩
      · simp only [List.concat_eq_append] at *
        have hqa := hq q (by simp)
        have hqc := hqa
        simp only [okPc, Bool.and_eq_true] at hqa
        have hlen : (a ++ [q]).length = a.length + 1 := by simp
        have hwl := wrap_len (n := (a ++ [q]).length) (by omega)
        have e1 : (((a ++ [q]).length : Nat) : Int) - 1 = (a.length : Int) := by rw [hlen]; omega
        have e2 : decide ((a.length : Int) ≥ Int.ofNat 0) = true := ge_zero _
        have e3 : decide ((a.length : Int) < Int.ofNat (a ++ [q]).length) = true := lt_in (by omega)
        have e4 : (a ++ [q])[Int.toNat (a.length : Int)]? = some q := by simp
        have hm : mrgD (a ++ [q]) p = if p.fp ≤ q.tp then (if q.tp < p.tp then a ++ [setTo q p] else a ++ [q]) else a ++ [q] ++ [p] := by
          unfold mrgD; simp
        simp only [hwl, e1, e2, e3, e4, ge_zero, Bool.and_self, cond_true, Option.bind_some]
        rw [ord_ft p q hpp hqc, ord_tt p q hpp hqc]
        simp only [Option.bind_some, le_le, gt_lt]
        rw [hm]
        by_cases c1 : p.fp ≤ q.tp
        · rw [decide_eq_true c1, if_pos c1]
          simp only [cond_true]
          by_cases c2 : q.tp < p.tp
          · rw [decide_eq_true c2, if_pos c2]
            simp only [cond_true, Int.toNat_natCast]
            rw [set_last]
            refine ⟨rfl, by simp at hb ⊢; omega, fun r hr => ?_⟩
            rcases List.mem_append.1 hr with h | h
            · exact hq r (by simp [h])
            · rw [List.mem_singleton.1 h]
              simp only [okPc, Bool.and_eq_true]
              exact ⟨hqa.1, hp.2⟩
          · rw [decide_eq_false c2, if_neg c2]
            exact ⟨rfl, by omega, hq⟩
        · rw [decide_eq_false c1, if_neg c1]
          simp only [cond_false]
          erw [hone]
          exact ⟨rfl, happ hb, hmem⟩)
    (fun b ⟨hb, _⟩ => by
      rw [B41_0_eq]
      simp only [Nat.sub_zero, lt_out, cond_false])
  exact this
theorem F72_is (l : List Span) : F72 (l, ()) = some (l, ()) := by
  rw [F72_eq]
  have : (decide (Int.ofNat 0 ≤ Int.ofNat l.length) && (decide (Int.ofNat l.length ≤ Int.ofNat l.length) && decide (Int.ofNat l.length ≤ Int.ofNat l.length))) = true := by simp
  rw [this]
  simp
theorem fold_len : ∀ (s acc : List Piece), (s.foldl mrgD acc).length ≤ acc.length + s.length
  | [], acc => by simp
  | p :: s, acc => by
    rw [List.foldl_cons]
    have h1 := fold_len s (mrgD acc p)
    have h2 : (mrgD acc p).length ≤ acc.length + 1 := by
      unfold mrgD
      split
      · simp
      · rename_i q hq
        split
        · split
          · cases acc with
            | nil => cases hq
            | cons x l => simp
          · omega
        · simp
    simp only [List.length_cons]
    omega
theorem F41_is (l : List Piece) (hp : ∀ p ∈ l, okP p) (hl : l.length ≤ big) : ∃ r, F41 (l, ()) = some ((Pc.nf (l.map Piece.pp)).map spanP, r, ()) := by
  obtain ⟨r, h1, h2, h3⟩ := F68_is l (fun p h => (hp p h).1) hl
  rw [F41_eq, h1]
  simp only [Option.bind_some]
  have hk : (l.filter full).length ≤ l.length := List.length_filter_le _ _
  have h70 : F70 (0, (l.filter full).length, r, ()) = some (sortBy cmpPc (l.filter full) ++ r.drop (l.filter full).length, ()) := by
    unfold F70 FSortP
    simp only [h2]
    have e1 : (l.filter full).all okPc = true := List.all_eq_true.2 fun p h => (hp p (List.mem_filter.1 h).1).1
    have e2 : Nat.ble (l.filter full).length r.length = true := Nat.ble_eq_true_of_le h3
    have e3 : decide ((l.filter full).length < 4611686018427387904) = true := decide_eq_true (by simp only [big] at hl; omega)
    rw [e1, e2, e3]
    rfl
  rw [h70]
  simp only [Option.bind_some]
  generalize hs : sortBy cmpPc (l.filter full) = s at *
  have hperm : s.Perm (l.filter full) := hs ▸ sortBy_perm swo_pc _
  have hsort : s.Pairwise fun a b => ¬ cmpPc b a < 0 := hs ▸ sortBy_sorted swo_pc _
  have hsl : s.length = (l.filter full).length := hperm.length_eq
  have hsm : ∀ p ∈ s, okP p ∧ full p = true := fun p h => by
    have := List.mem_filter.1 (hperm.mem_iff.1 h)
    exact ⟨hp p this.1, this.2⟩
  rw [← hsl]
  rw [B41_0_is s _ (fun p h => (hsm p h).1.1) (by omega)]
  simp only [Option.bind_some]
  have hfl := fold_len s []
  simp only [List.length_nil, Nat.zero_add] at hfl
  have hgood := fold_mem s [] (by simp) fun p h => full_good (hsm p h).1 (hsm p h).2
  have hnf : (s.foldl mrgD []).map Piece.pp = Pc.nf (l.map Piece.pp) := by
    rw [fold_map]
    refine Pc.sorted_nf ?_ ?_
    · rw [List.filter_map]
      have : (Pc.full ∘ Piece.pp : Piece → Bool) = full := by
        funext p
        show decide (p.fp < p.tp) = !(!decide (p.fp < p.tp))
        rw [Bool.not_not]
      rw [this]
      exact hperm.map _
    · rw [List.pairwise_map]
      refine hsort.imp fun {a b} h => ?_
      show a.fp ≤ b.fp
      rw [pt_le]
      unfold cmpPc at h
      rw [lin_pt.anti a.fp b.fp] at h
      omega
  generalize s.foldl mrgD [] = m at *
  have := loop_map (B := B41_1) m (fun i b => (Int.ofNat m.length, (i : Int), s ++ List.drop s.length r, b, m, ())) spanOf (fun b => (s ++ List.drop s.length r, b, ())) (fun i h b hb => by
    rw [B41_1_eq]
    have h5 := one_le (b := b) (N := 1599289640401) (spanOf m[i]) (by simp only [big] at hl; omega)
    simp only [lt_in h, cond_true, ge_zero, Bool.and_self, at_in h, Option.bind_some, wrap_next h (by simp only [big] at hl; omega)]
    erw [h5]
    rfl) (fun b hb => by
    rw [B41_1_eq]
    simp only [lt_out, cond_false])
  have h0 : loop B41_1 (Int.ofNat m.length, Int.ofNat 0, s ++ List.drop s.length r, [], m, ()) = _ := this
  rw [h0]
  simp only [Option.bind_some, F72_is]
  have : m.map spanOf = (Pc.nf (l.map Piece.pp)).map spanP := by
    rw [← hnf, List.map_map]
    exact List.map_congr_left fun p h => spanOf_eq (hgood p h)
  rw [this]
  exact ⟨_, rfl⟩
end Go.Vx.Z
/-! span: Or, Not, And, Has. -/
namespace Go.Vx.Z
open Go Go.Vx
set_option linter.unusedVariables false
theorem flat_step {α : Type} (ls : List (List α)) {i : Nat} (h : i < ls.length) : (ls.take (i + 1)).flatten = (ls.take i).flatten ++ ls[i] ∧ ((ls.take i).flatten ++ ls[i]).length ≤ ls.flatten.length := by
  have e : (ls.take (i + 1)).flatten = (ls.take i).flatten ++ ls[i] := by rw [List.take_succ_eq_append_getElem h, List.flatten_append]; simp only [List.flatten_cons, List.flatten_nil, List.append_nil]
  refine ⟨e, ?_⟩
  rw [← e]
  have := List.take_append_drop (i + 1) ls
  conv => rhs; rw [← this]
  rw [List.flatten_append, List.length_append]
  omega
theorem F73_is (n : Nat) (h : n ≤ big) : F73 ((n : Int), ()) = some ([], ()) := by
  rw [F73_eq]
  simp only [big] at h
  have hw : IntKind.wrap IntKind.i64 ((n : Int) - Int.ofNat 0) = (n : Int) := by
    show IntKind.wrap IntKind.i64 ((n : Int) - 0) = _
    rw [Int.sub_zero]; exact wrap64 (by omega) (by omega)
  rw [hw]
  have e1 : decide ((n : Int) < Int.ofNat 0) = false := by simp
  rw [e1]
  simp only [cond_false]
  by_cases hn : n = 0
  · subst hn; rfl
  · have e2 : decide ((n : Int) > Int.ofNat 0) = true := decide_eq_true (by show (0 : Int) < n; omega)
    have e3 : decide ((n : Int) ≤ Int.ofNat 1599289640401) = true := by simp; omega
    rw [e2, e3]
    simp only [cond_true, Bool.and_self]
    have e4 : ∀ z : R7, decide (Int.ofNat 0 ≤ Int.ofNat (List.replicate (Int.toNat (n : Int)) z).length) = true := fun z => by simp
    rw [e4]
    simp
theorem F42_is (ls : List (List Span)) (h : ls.flatten.length ≤ big) (hl : ls.length ≤ big) : F42 (ls, ()) = some (ls.flatten, ()) := by
  rw [F42_eq]
  have h0 : loop B42_0 (ls, Int.ofNat 0, ls, Int.ofNat ls.length, Int.ofNat 0, ()) = some (ls, (ls.flatten.length : Int), ()) := by
    have := loop_row (B := B42_0) (fun i => (ls, (((ls.take i).flatten.length : Nat) : Int), ls, Int.ofNat ls.length, (i : Int), ())) ls.length (e := (ls, (ls.flatten.length : Int), ())) (fun i hi => by
      obtain ⟨f1, f2⟩ := flat_step ls hi
      simp only [big] at h hl
      rw [B42_0_eq]
      have e1 : IntKind.wrap IntKind.i64 ((((ls.take i).flatten.length : Nat) : Int) + Int.ofNat ls[i].length) = ((((ls.take i).flatten ++ ls[i]).length : Nat) : Int) := by
        rw [List.length_append] at f2 ⊢
        show IntKind.wrap IntKind.i64 ((((ls.take i).flatten.length : Nat) : Int) + ((ls[i].length : Nat) : Int)) = _
        rw [wrap64 (by omega) (by omega)]; omega
      have e2 : decide (((((ls.take i).flatten ++ ls[i]).length : Nat) : Int) < Int.ofNat 0) = false := by simp; omega
      simp only [lt_in hi, cond_true, ge_zero, at_in hi, Option.bind_some, e1, e2, cond_false, wrap_next hi (by omega), f1]) (by
      rw [B42_0_eq]
      simp only [lt_out, cond_false, List.take_length])
    exact this
  rw [h0]
  simp only [Option.bind_some, F73_is _ h]
  have h1 : loop B42_1 (ls, Int.ofNat ls.length, Int.ofNat 0, [], ()) = some (ls.flatten, ()) := by
    have := loop_row (B := B42_1) (fun i => (ls, Int.ofNat ls.length, (i : Int), (ls.take i).flatten, ())) ls.length (e := (ls.flatten, ())) (fun i hi => by
      obtain ⟨f1, f2⟩ := flat_step ls hi
      simp only [big] at h hl
      rw [B42_1_eq]
      have e2 : decide ((ls.take i).flatten.length + ls[i].length ≤ 1599289640401) = true := by
        rw [List.length_append] at f2
        exact decide_eq_true (by omega)
      simp only [lt_in hi, cond_true, ge_zero, at_in hi, Option.bind_some, e2, wrap_next hi (by omega), f1]) (by
      rw [B42_1_eq]
      simp only [lt_out, cond_false, List.take_length])
    exact this
  rw [h1]
  rfl
def kOf (s : Span) : Pt × Pt := (pieceOf s).pp
def okS (s : Span) : Bool := okV s.lo && okV s.hi
theorem pieceOf_ok {s : Span} (h : okS s = true) : okP (pieceOf s) := by
  obtain ⟨a, b, c, d, a', b', c', d', u, v, w, x⟩ := s
  simp only [okS, Bool.and_eq_true] at h
  unfold okP okPc pieceOf
  cases w with
  | true => exact ⟨by simp only [cond_true, Bool.and_eq_true]; exact ⟨h.1, rfl⟩, fun _ => ⟨rfl, rfl⟩⟩
  | false => exact ⟨by simp only [cond_false, Bool.and_eq_true]; exact ⟨h.1, h.2⟩, fun hc => by cases hc⟩
theorem pieceOf_fe (s : Span) : (pieceOf s).fe = false := by
  unfold pieceOf Piece.fe
  cases s.2.2.2.2.2.2.2.2.2.2.1 <;> rfl
theorem map_pp (l : List Span) : (l.map pieceOf).map Piece.pp = l.map kOf := by rw [List.map_map]; rfl
theorem norm_spans (l : List Span) (h : ∀ s ∈ l, okS s = true) (hl : l.length ≤ big) : ∃ r, F41 (l.map pieceOf, ()) = some ((Pc.nf (l.map kOf)).map spanP, r, ()) := by
  obtain ⟨r, hr⟩ := F41_is (l.map pieceOf) (fun p hp => by obtain ⟨s, h1, rfl⟩ := List.mem_map.1 hp; exact pieceOf_ok (h s h1)) (by simpa using hl)
  rw [map_pp] at hr
  exact ⟨r, hr⟩
theorem F17_is (ls : List (List Span)) (hok : ∀ s ∈ ls.flatten, okS s = true) (h : ls.flatten.length ≤ big) (hl : ls.length ≤ big) : F17 (ls, ()) = some ((Pc.nf (ls.flatten.map kOf)).map spanP, ()) := by
  obtain ⟨r, hr⟩ := norm_spans _ hok h
  rw [F17_eq, F42_is ls h hl, Option.bind_some, F39v1_is _ h, Option.bind_some, hr]
  rfl
def ptV (v : Ver) : Pt := ptOf v false false
def least : Ver := (0, 0, 0, lit [48], ())
def pBeg : Pt := ptV least
def pEnd : Pt := ptOf v0 false true
def gapsD : Ver × Bool × Bool → List Piece → List Piece
  | a, [] => [(a.1.1, a.1.2.1, a.1.2.2.1, a.1.2.2.2.1, a.2.1, a.2.2, Int.ofNat 0, Int.ofNat 0, Int.ofNat 0, (lit []), false, true, ())]
  | a, p :: l => (a.1.1, a.1.2.1, a.1.2.2.1, a.1.2.2.2.1, a.2.1, a.2.2, p.1, p.2.1, p.2.2.1, p.2.2.2.1, p.2.2.2.2.1, p.2.2.2.2.2.1, ()) :: gapsD (p.tv, p.tb, p.te) l
theorem gapsD_pp : ∀ (l : List Piece) (a : Ver × Bool × Bool), (gapsD a l).map Piece.pp = Pc.gaps (ptOf a.1 a.2.1 a.2.2) (l.map Piece.pp) pEnd
  | [], a => rfl
  | p :: l, a => by
    simp only [gapsD, List.map_cons, Pc.gaps, gapsD_pp l]
    rfl
theorem gapsD_ok : ∀ (l : List Piece) (a : Ver × Bool × Bool), okV a.1 = true → (∀ p ∈ l, okPc p = true ∧ p.fe = false) → ∀ q ∈ gapsD a l, okP q
  | [], a, ha, _, q, hq => by
    rw [List.mem_singleton.1 hq]
    exact ⟨by simp only [okPc, Bool.and_eq_true]; exact ⟨ha, rfl⟩, fun _ => ⟨rfl, rfl⟩⟩
  | p :: l, a, ha, hl, q, hq => by
    obtain ⟨h1, h2⟩ := hl p (by simp)
    simp only [okPc, Bool.and_eq_true] at h1
    rcases List.mem_cons.1 hq with rfl | hq
    · refine ⟨by simp only [okPc, Bool.and_eq_true]; exact ⟨ha, h1.1⟩, fun hc => ?_⟩
      have : p.fe = true := hc
      rw [h2] at this; cases this
    · exact gapsD_ok l _ h1.2 (fun p hp => hl p (by simp [hp])) q hq
theorem gapsD_len : ∀ (l : List Piece) (a : Ver × Bool × Bool), (gapsD a l).length = l.length + 1
  | [], a => rfl
  | p :: l, a => by simp only [gapsD, List.length_cons, gapsD_len l]
theorem B18_is (ps : List Piece) (hl : ps.length ≤ big) : ∀ (n i : Nat) (a : Ver × Bool × Bool) (b : List Piece), ps.length - i = n → i ≤ ps.length → b.length = i →
    ∃ (a' : Ver × Bool × Bool) (b' : List Piece), loop B18_0 (Int.ofNat ps.length, (i : Int), a.1.1, a.1.2.1, a.1.2.2.1, a.1.2.2.2.1, a.2.1, a.2.2, b, ps, ()) = some (a'.1.1, a'.1.2.1, a'.1.2.2.1, a'.1.2.2.2.1, a'.2.1, a'.2.2, b', ()) ∧
      b'.length = ps.length ∧ b' ++ gapsD a' [] = b ++ gapsD a (ps.drop i)
  | 0, i, a, b, hn, hi, hb => by
    obtain rfl : i = ps.length := by omega
    refine ⟨a, b, loop_end ?_, hb, by rw [List.drop_length]⟩
    rw [B18_0_eq]
    simp only [lt_out, cond_false]
  | n + 1, i, a, b, hn, hi, hb => by
    have h : i < ps.length := by omega
    simp only [big] at hl
    obtain ⟨a', b', h1, h2, h3⟩ := B18_is ps hl n (i + 1) (ps[i].tv, ps[i].tb, ps[i].te) (b ++ [(a.1.1, a.1.2.1, a.1.2.2.1, a.1.2.2.2.1, a.2.1, a.2.2, ps[i].1, ps[i].2.1, ps[i].2.2.1, ps[i].2.2.2.1, ps[i].2.2.2.2.1, ps[i].2.2.2.2.2.1, ())]) (by omega) h (by simp [hb])
    refine ⟨a', b', loop_step ?_ h1, h2, ?_⟩
    · rw [B18_0_eq]
      simp only [lt_in h, cond_true, ge_zero, Bool.and_self, at_in h, Option.bind_some, wrap_next h (by omega)]
      erw [one_le (b := b) _ (by omega)]
      rfl
    · rw [h3, List.drop_eq_getElem_cons h, gapsD, List.append_assoc]
      rfl
theorem F18_is (l : List Span) (hok : ∀ s ∈ l, okS s = true) (hl : l.length < big) : F18 (l, ()) = some ((Pc.nf (Pc.gaps pBeg (l.map kOf) pEnd)).map spanP, ()) := by
  rw [F18_eq, F43_eq, Option.bind_some, F39_is l (Nat.le_of_lt hl), Option.bind_some]
  obtain ⟨a', b', h1, h2, h3⟩ := B18_is (l.map pieceOf) (by simp only [List.length_map, big] at hl ⊢; omega) _ 0 (least, false, false) [] rfl (Nat.zero_le _) rfl
  have h1' : loop B18_0 (Int.ofNat (l.map pieceOf).length, Int.ofNat 0, Int.ofNat 0, Int.ofNat 0, Int.ofNat 0, lit [48], false, false, [], l.map pieceOf, ()) = _ := h1
  rw [h1']
  simp only [Option.bind_some]
  rw [List.length_map] at h2
  simp only [big] at hl
  erw [one_le (b := b') _ (by omega)]
  simp only [cond_true]
  have h4 : b' ++ [((a'.1.1, a'.1.2.1, a'.1.2.2.1, a'.1.2.2.2.1, a'.2.1, a'.2.2, Int.ofNat 0, Int.ofNat 0, Int.ofNat 0, (lit []), false, true, ()) : Piece)] = gapsD (least, false, false) (l.map pieceOf) := h3
  erw [h4]
  obtain ⟨r, hr⟩ := F41_is (gapsD (least, false, false) (l.map pieceOf)) (gapsD_ok _ _ rfl fun p hp => by
    obtain ⟨s, h5, rfl⟩ := List.mem_map.1 hp
    exact ⟨(pieceOf_ok (hok s h5)).1, pieceOf_fe s⟩) (by rw [gapsD_len]; simp only [List.length_map, big]; omega)
  rw [gapsD_pp, map_pp] at hr
  rw [hr]
  rfl
end Go.Vx.Z
/-! span: And, Has. -/
namespace Go.Vx.Z
open Go Go.Vx
set_option linter.unusedVariables false
theorem loop_mapA {P E α β : Type} {B : P → Option (P ⊕ E)} (xs : List α) (acc : List β) (st : Nat → List β → P) (f : α → β) (en : List β → E)
    (hs : ∀ i (h : i < xs.length) b, b.length = acc.length + i → B (st i b) = some (.inl (st (i + 1) (b ++ [f xs[i]])))) (he : ∀ b, b.length = acc.length + xs.length → B (st xs.length b) = some (.inr (en b))) :
    loop B (st 0 acc) = some (en (acc ++ xs.map f)) := by
  have := loop_fold (B := B) xs st (fun b y => b ++ [f y]) en acc (fun i b => b.length = acc.length + i) rfl (fun i h b hb => ⟨hs i h b hb, by simp [hb]; omega⟩) he
  rw [this, foldl_snoc]
def meetD (p q : Piece) : Piece := bif decide (p.fp < q.fp) then (bif decide (q.tp < p.tp) then (q.1, q.2.1, q.2.2.1, q.2.2.2.1, q.2.2.2.2.1, q.2.2.2.2.2.1, q.2.2.2.2.2.2.1, q.2.2.2.2.2.2.2.1, q.2.2.2.2.2.2.2.2.1, q.2.2.2.2.2.2.2.2.2.1, q.2.2.2.2.2.2.2.2.2.2.1, q.2.2.2.2.2.2.2.2.2.2.2.1, ()) else (q.1, q.2.1, q.2.2.1, q.2.2.2.1, q.2.2.2.2.1, q.2.2.2.2.2.1, p.2.2.2.2.2.2.1, p.2.2.2.2.2.2.2.1, p.2.2.2.2.2.2.2.2.1, p.2.2.2.2.2.2.2.2.2.1, p.2.2.2.2.2.2.2.2.2.2.1, p.2.2.2.2.2.2.2.2.2.2.2.1, ()))
  else (bif decide (q.tp < p.tp) then (p.1, p.2.1, p.2.2.1, p.2.2.2.1, p.2.2.2.2.1, p.2.2.2.2.2.1, q.2.2.2.2.2.2.1, q.2.2.2.2.2.2.2.1, q.2.2.2.2.2.2.2.2.1, q.2.2.2.2.2.2.2.2.2.1, q.2.2.2.2.2.2.2.2.2.2.1, q.2.2.2.2.2.2.2.2.2.2.2.1, ()) else (p.1, p.2.1, p.2.2.1, p.2.2.2.1, p.2.2.2.2.1, p.2.2.2.2.2.1, p.2.2.2.2.2.2.1, p.2.2.2.2.2.2.2.1, p.2.2.2.2.2.2.2.2.1, p.2.2.2.2.2.2.2.2.2.1, p.2.2.2.2.2.2.2.2.2.2.1, p.2.2.2.2.2.2.2.2.2.2.2.1, ()))
theorem meetD_pp (p q : Piece) : (meetD p q).pp = Pc.meet p.pp q.pp := by
  unfold meetD Pc.meet
  show _ = (if p.fp < q.fp then q.fp else p.fp, if q.tp < p.tp then q.tp else p.tp)
  by_cases h1 : p.fp < q.fp
  · by_cases h2 : q.tp < p.tp
    · rw [decide_eq_true h1, decide_eq_true h2, if_pos h1, if_pos h2]; rfl
    · rw [decide_eq_true h1, decide_eq_false h2, if_pos h1, if_neg h2]; rfl
  · by_cases h2 : q.tp < p.tp
    · rw [decide_eq_false h1, decide_eq_true h2, if_neg h1, if_pos h2]; rfl
    · rw [decide_eq_false h1, decide_eq_false h2, if_neg h1, if_neg h2]; rfl
theorem meetD_ok {p q : Piece} (hp : okP p) (hq : okP q) : okP (meetD p q) := by
  obtain ⟨h1, h2⟩ := hp
  obtain ⟨h3, h4⟩ := hq
  simp only [okPc, Bool.and_eq_true] at h1 h3
  unfold meetD okP okPc
  simp only [Bool.and_eq_true]
  cases decide (p.fp < q.fp) <;> cases decide (q.tp < p.tp)
  · exact ⟨⟨h1.1, h1.2⟩, h2⟩
  · exact ⟨⟨h1.1, h3.2⟩, h4⟩
  · exact ⟨⟨h3.1, h1.2⟩, h2⟩
  · exact ⟨⟨h3.1, h3.2⟩, h4⟩
theorem lt_lt (a b : Pt) : decide (a.c b < Int.ofNat 0) = decide (a < b) := rfl
theorem meet_inner (x0 : List Span) (x1 x2 : Int) (p : Piece) (hp : okPc p = true) (x18 qs : List Piece) (hq : ∀ q ∈ qs, okPc q = true) (hl : qs.length ≤ big) (acc : List Piece) (ha : acc.length + qs.length ≤ big) :
    loop B16_0 (x0, x1, x2, Int.ofNat qs.length, Int.ofNat 0, acc, p.1, p.2.1, p.2.2.1, p.2.2.2.1, p.2.2.2.2.1, p.2.2.2.2.2.1, p.2.2.2.2.2.2.1, p.2.2.2.2.2.2.2.1, p.2.2.2.2.2.2.2.2.1, p.2.2.2.2.2.2.2.2.2.1, p.2.2.2.2.2.2.2.2.2.2.1, p.2.2.2.2.2.2.2.2.2.2.2.1, x18, qs, ()) = some (x0, x1, x2, acc ++ qs.map (meetD p), x18, ()) := by
  have := loop_mapA (B := B16_0) qs acc (fun i b => (x0, x1, x2, Int.ofNat qs.length, (i : Int), b, p.1, p.2.1, p.2.2.1, p.2.2.2.1, p.2.2.2.2.1, p.2.2.2.2.2.1, p.2.2.2.2.2.2.1, p.2.2.2.2.2.2.2.1, p.2.2.2.2.2.2.2.2.1, p.2.2.2.2.2.2.2.2.2.1, p.2.2.2.2.2.2.2.2.2.2.1, p.2.2.2.2.2.2.2.2.2.2.2.1, x18, qs, ())) (meetD p) (fun b => (x0, x1, x2, b, x18, ())) (fun i h b hb => by
    rw [B16_0_eq]
    simp only [big] at hl ha
    have hqi := hq _ (List.getElem_mem h)
    simp only [lt_in h, cond_true, ge_zero, Bool.and_self, at_in h, Option.bind_some, wrap_next h (by omega)]
    rw [ord_ff qs[i] p hqi hp, ord_tt qs[i] p hqi hp]
    simp only [Option.bind_some, gt_lt, lt_lt]
    unfold meetD
    cases decide (p.fp < qs[i].fp) <;> cases decide (qs[i].tp < p.tp) <;> simp only [cond_true, cond_false] <;> erw [one_le (b := b) _ (by omega)] <;> rfl) (fun b hb => by
    rw [B16_0_eq]
    simp only [lt_out, cond_false])
  exact this
theorem F16_is (a b : List Span) (ha : ∀ s ∈ a, okS s = true) (hb : ∀ s ∈ b, okS s = true) (hl : a.length ≤ 1000000) (hl2 : b.length ≤ 1000000) :
    F16 (a, b, ()) = some ((Pc.nf (Pc.meets (a.map kOf) (b.map kOf))).map spanP, ()) := by
  have hbl : b.length ≤ big := by simp only [big]; omega
  have hal : a.length ≤ big := by simp only [big]; omega
  rw [F16_eq, F39_is a hal, Option.bind_some]
  have hpa : ∀ p ∈ a.map pieceOf, okP p := fun p hp => by obtain ⟨s, h1, rfl⟩ := List.mem_map.1 hp; exact pieceOf_ok (ha s h1)
  have hpb : ∀ p ∈ b.map pieceOf, okP p := fun p hp => by obtain ⟨s, h1, rfl⟩ := List.mem_map.1 hp; exact pieceOf_ok (hb s h1)
  have hmul : ∀ i, i ≤ a.length → i * b.length ≤ 1000000000000 := fun i hi => Nat.le_trans (Nat.mul_le_mul (Nat.le_trans hi hl) hl2) (by decide)
  generalize hA : a.map pieceOf = A at *
  have hAl : A.length = a.length := by rw [← hA, List.length_map]
  have h0 := loop_fold (B := B16_1) A (fun i (out : List Piece) => (b, Int.ofNat A.length, (i : Int), out, A, ())) (fun out p => out ++ (b.map pieceOf).map (meetD p)) (fun out => (out, ())) [] (fun i out => out.length = i * b.length) (by simp)
    (fun i h out ho => by
      have hi := hmul i (by omega)
      have hi2 := hmul (i + 1) (by omega)
      rw [Nat.add_mul, Nat.one_mul] at hi2
      refine ⟨?_, by simp [ho, Nat.add_mul]⟩
      rw [B16_1_eq]
      simp only [lt_in h, cond_true, ge_zero, Bool.and_self, at_in h, Option.bind_some, F39_is b hbl]
      rw [meet_inner b _ _ A[i] (hpa _ (List.getElem_mem h)).1 A (b.map pieceOf) (fun q hq => (hpb q hq).1) (by simpa using hbl) out (by simp only [List.length_map, big]; omega)]
      simp only [Option.bind_some, wrap_next h (show A.length ≤ 9223372036854775807 by omega)]) (fun out ho => by
      rw [B16_1_eq]
      simp only [lt_out, cond_false])
  have h1 : loop B16_1 (b, Int.ofNat A.length, Int.ofNat 0, [], A, ()) = _ := h0
  rw [h1, Option.bind_some]
  have hfold : ∀ (l acc : List Piece), l.foldl (fun out p => out ++ (b.map pieceOf).map (meetD p)) acc = acc ++ l.flatMap fun p => (b.map pieceOf).map (meetD p) := by
    intro l
    induction l with
    | nil => intro acc; simp
    | cons p l ih => intro acc; rw [List.foldl_cons, ih, List.flatMap_cons, List.append_assoc]
  rw [hfold, List.nil_append]
  have hlen : (A.flatMap fun p => (b.map pieceOf).map (meetD p)).length = A.length * b.length := by
    clear h0 h1 hfold hA hpa
    clear hAl
    induction A with
    | nil => simp
    | cons p l ih =>
      rw [List.flatMap_cons, List.length_append, ih, List.length_map, List.length_map, List.length_cons, Nat.add_mul, Nat.one_mul]
      exact Nat.add_comm _ _
  obtain ⟨r, hr⟩ := F41_is (A.flatMap fun p => (b.map pieceOf).map (meetD p)) (fun p hp => by
    obtain ⟨x, hx, hp⟩ := List.mem_flatMap.1 hp
    obtain ⟨y, hy, rfl⟩ := List.mem_map.1 hp
    exact meetD_ok (hpa x hx) (hpb y hy)) (by rw [hlen, hAl]; have := hmul a.length (Nat.le_refl _); simp only [big]; omega)
  rw [hr]
  have : (A.flatMap fun p => (b.map pieceOf).map (meetD p)).map Piece.pp = Pc.meets (a.map kOf) (b.map kOf) := by
    unfold Pc.meets
    rw [← map_pp a, hA, ← map_pp b, List.map_flatMap, List.flatMap_map]
    have hq : ∀ p : Piece, List.map Piece.pp (List.map (meetD p) (List.map pieceOf b)) = List.map (Pc.meet p.pp) (List.map Piece.pp (List.map pieceOf b)) := fun p => by
      generalize List.map pieceOf b = B
      rw [List.map_map, List.map_map]
      exact List.map_congr_left fun q _ => meetD_pp p q
    simp only [hq]
  rw [this]
  rfl
/-! Has -/
def hasK (l : List (Pt × Pt)) (x : Pt) : Bool := l.any fun p => decide (p.1 ≤ x) && decide (x < p.2)
end Go.Vx.Z
/-! The document's splitting. -/
namespace Go.Vx
open Go
set_option linter.unusedVariables false
theorem splitB_cons (c x : UInt8) (z : List UInt8) : splitB c (x :: z) = if x == c then [] :: splitB c z else match splitB c z with
    | [] => [[x]]
    | w :: ws => (x :: w) :: ws := rfl
theorem splitB_no (c : UInt8) : ∀ (l : List UInt8), c ∉ l → splitB c l = [l]
  | [], _ => rfl
  | x :: l, h => by
    simp only [List.mem_cons, not_or] at h
    have ih := splitB_no c l h.2
    have hx : (x == c) = false := by simpa using fun e => h.1 e.symm
    rw [splitB_cons, hx, ih]
    rfl
theorem splitB_yes (c : UInt8) : ∀ (k l : List UInt8), c ∉ k → splitB c (k ++ c :: l) = k :: splitB c l
  | [], l, _ => by
    rw [List.nil_append, splitB_cons, beq_self_eq_true]
    rfl
  | x :: k, l, h => by
    simp only [List.mem_cons, not_or] at h
    have ih := splitB_yes c k l h.2
    have hx : (x == c) = false := by simpa using fun e => h.1 e.symm
    rw [List.cons_append, splitB_cons, hx, ih]
    rfl
end Go.Vx
namespace Go.Vx.Z
open Go Go.Vx
set_option linter.unusedVariables false
set_option maxRecDepth 100000
end Go.Vx.Z
/-! The document's spans: normed. -/
namespace Go.Vx.Z
open Go Go.Vx
set_option linter.unusedVariables false
theorem kOf_2 (s : Span) : (kOf s).2 = if s.op then pEnd else ptOf s.hi s.isIn false := by
  unfold kOf pieceOf Span.hi Span.isIn Span.op
  cases s.2.2.2.2.2.2.2.2.2.2.1 <;> rfl
theorem c_pt (u v : Ver) (a b : Bool) : (ptOf u a false).c (ptOf v b false) = orC (cmpV u v) (cmpI (if a then 1 else 0) (if b then 1 else 0)) := by
  show orC (cmpI 0 0) _ = _
  rw [show cmpI 0 0 = 0 from rfl]
  simp only [orC, if_true]
  rfl
theorem le_pt (u v : Ver) (a b : Bool) : decide (ptOf u a false ≤ ptOf v b false) = (decide (cmpV u v < 0) || cmpV u v == 0 && (!a || b)) := by
  show decide ((ptOf u a false).c (ptOf v b false) ≤ 0) = _
  rw [c_pt]
  unfold orC
  rcases lin_cmpV.rng u v with e | e | e <;> rw [e] <;> cases a <;> cases b <;> rfl
theorem lt_end (u : Ver) (a : Bool) : ptOf u a false < pEnd := by
  show Pt.c _ _ < 0
  have : Pt.c (ptOf u a false) pEnd = -1 := by cases a <;> rfl
  omega
abbrev args (s : Span) (X : Type) (k : Int → Int → Int → ByteArray → Int → Int → Int → ByteArray → Bool → Bool → Bool → X) : X := k s.1 s.2.1 s.2.2.1 s.2.2.2.1 s.2.2.2.2.1 s.2.2.2.2.2.1 s.2.2.2.2.2.2.1 s.2.2.2.2.2.2.2.1 s.2.2.2.2.2.2.2.2.1 s.2.2.2.2.2.2.2.2.2.1 s.2.2.2.2.2.2.2.2.2.2.1
def canS (s : Span) : Prop := okS s = true ∧ (s.op = true → s.hi = v0 ∧ s.isIn = false)
theorem spanP_kOf {s : Span} (h : canS s) : spanP (kOf s) = s := by
  obtain ⟨a, b, c, d, a', b', c', d', u, v, w, x⟩ := s
  obtain ⟨_, h⟩ := h
  cases w with
  | true =>
    obtain ⟨h1, h2⟩ := h rfl
    simp only [Span.hi, v0, Prod.mk.injEq] at h1
    obtain ⟨rfl, rfl, rfl, rfl, _⟩ := h1
    have h2 : v = false := h2
    subst h2
    cases u <;> rfl
  | false => cases u <;> cases v <;> rfl
end Go.Vx.Z
/-! What spans say; Or, Not, And, Has of the program and of the document say the same. -/
namespace Go.Vx.Z
open Go Go.Vx
set_option linter.unusedVariables false
theorem good_k {p : Piece} (h : good p) : canS (spanOf p) ∧ kOf (spanOf p) = p.pp := by
  obtain ⟨⟨h0, h1⟩, h2⟩ := h
  obtain ⟨a, b, c, d, fb, fe, a', b', c', d', tb, te, u⟩ := p
  simp only [Piece.te, Piece.tv, Piece.tb] at h1
  simp only [Piece.fe] at h2
  subst h2
  refine ⟨⟨h0, h1⟩, ?_⟩
  cases te with
  | true =>
    obtain ⟨h3, h4⟩ := h1 rfl
    simp only [v0, Prod.mk.injEq] at h3
    obtain ⟨rfl, rfl, rfl, rfl, _⟩ := h3
    subst h4
    rfl
  | false => rfl
def IsK (p : Pt × Pt) : Prop := ∃ s, canS s ∧ kOf s = p
theorem isK {p : Pt × Pt} (h : IsK p) : canS (spanP p) ∧ kOf (spanP p) = p := by
  obtain ⟨s, h1, rfl⟩ := h
  rw [spanP_kOf h1]
  exact ⟨h1, rfl⟩
theorem nf_isK (l : List Piece) (hp : ∀ p ∈ l, okP p) : ∀ q ∈ Pc.nf (l.map Piece.pp), IsK q := by
  have hperm : ((l.filter full).mergeSort fun p q => decide (p.fp ≤ q.fp)).Perm (l.filter full) := List.mergeSort_perm _ _
  have hsort := List.pairwise_mergeSort (le := fun p q : Piece => decide (p.fp ≤ q.fp)) (fun a b c h1 h2 => by simp only [decide_eq_true_eq] at *; grind) (fun a b => by simp only [Bool.or_eq_true, decide_eq_true_eq]; grind) (l.filter full)
  generalize ((l.filter full).mergeSort fun p q => decide (p.fp ≤ q.fp)) = s at *
  have hgood := fold_mem s [] (by simp) fun p h => by
    have := List.mem_filter.1 (hperm.mem_iff.1 h)
    exact full_good (hp p this.1) this.2
  have hnf : (s.foldl mrgD []).map Piece.pp = Pc.nf (l.map Piece.pp) := by
    rw [fold_map]
    refine Pc.sorted_nf ?_ ?_
    · rw [List.filter_map]
      have : (Pc.full ∘ Piece.pp : Piece → Bool) = full := by
        funext p
        show decide (p.fp < p.tp) = !(!decide (p.fp < p.tp))
        rw [Bool.not_not]
      rw [this]
      exact hperm.map _
    · rw [List.pairwise_map]
      exact hsort.imp fun {a b} h => by
        show a.fp ≤ b.fp
        simpa using h
  intro q hq
  rw [← hnf] at hq
  obtain ⟨p, h1, rfl⟩ := List.mem_map.1 hq
  obtain ⟨h2, h3⟩ := good_k (hgood p h1)
  exact ⟨_, h2, h3⟩
theorem mrg_len (acc : List (Pt × Pt)) (p : Pt × Pt) : (Pc.mrg acc p).length ≤ acc.length + 1 := by
  unfold Pc.mrg
  split
  · simp
  · split
    · split
      · cases acc with
        | nil => simp
        | cons x l => simp
      · omega
    · simp
theorem mrgs_len : ∀ (s acc : List (Pt × Pt)), (s.foldl Pc.mrg acc).length ≤ acc.length + s.length
  | [], acc => by simp
  | p :: s, acc => by
    rw [List.foldl_cons]
    have h1 := mrgs_len s (Pc.mrg acc p)
    have h2 := mrg_len acc p
    simp only [List.length_cons]
    omega
theorem nf_len (l : List (Pt × Pt)) : (Pc.nf l).length ≤ l.length := by
  unfold Pc.nf
  have h1 := mrgs_len ((l.filter Pc.full).mergeSort fun p q => decide (p.1 ≤ q.1)) []
  have h2 : ((l.filter Pc.full).mergeSort fun p q => decide (p.1 ≤ q.1)).length = (l.filter Pc.full).length := (List.mergeSort_perm _ _).length_eq
  have h3 : (l.filter Pc.full).length ≤ l.length := List.length_filter_le _ _
  simp only [List.length_nil] at h1
  omega
def den (L : List Span) (x : Pt) : Prop := Pc.mem (L.map kOf) x
def Nrm (L : List Span) : Prop := Pc.Nm (L.map kOf) ∧ ∀ s ∈ L, canS s
theorem nrm_of {X : List (Pt × Pt)} (h : Pc.Nm X) (hk : ∀ p ∈ X, IsK p) : Nrm (X.map spanP) ∧ (X.map spanP).map kOf = X := by
  have h1 : (X.map spanP).map kOf = X := by
    rw [List.map_map]
    conv => rhs; rw [← List.map_id X]
    exact List.map_congr_left fun p hp => (isK (hk p hp)).2
  refine ⟨⟨by rw [h1]; exact h, fun s hs => ?_⟩, h1⟩
  obtain ⟨p, hp, rfl⟩ := List.mem_map.1 hs
  exact (isK (hk p hp)).1
theorem nrm_ok {L : List Span} (h : Nrm L) : ∀ s ∈ L, okS s = true := fun s hs => (h.2 s hs).1
theorem nf_says (l : List Piece) (hp : ∀ p ∈ l, okP p) : Nrm ((Pc.nf (l.map Piece.pp)).map spanP) ∧ (∀ x, den ((Pc.nf (l.map Piece.pp)).map spanP) x ↔ Pc.mem (l.map Piece.pp) x) ∧ ((Pc.nf (l.map Piece.pp)).map spanP).length ≤ l.length := by
  obtain ⟨h1, h2⟩ := Pc.nf_ok (l.map Piece.pp)
  obtain ⟨h3, h4⟩ := nrm_of h1 (nf_isK l hp)
  refine ⟨h3, fun x => ?_, ?_⟩
  · unfold den
    rw [h4, h2]
  · have := nf_len (l.map Piece.pp)
    rw [List.length_map] at this ⊢
    exact this
theorem kOf_says (l : List Span) (hok : ∀ s ∈ l, okS s = true) : Nrm ((Pc.nf (l.map kOf)).map spanP) ∧ (∀ x, den ((Pc.nf (l.map kOf)).map spanP) x ↔ den l x) ∧ ((Pc.nf (l.map kOf)).map spanP).length ≤ l.length := by
  have := nf_says (l.map pieceOf) fun p hp => by obtain ⟨s, h1, rfl⟩ := List.mem_map.1 hp; exact pieceOf_ok (hok s h1)
  rw [map_pp, List.length_map (f := pieceOf)] at this
  exact this
theorem den_append (a b : List Span) (x : Pt) : den (a ++ b) x ↔ den a x ∨ den b x := by
  unfold den
  rw [List.map_append, Pc.mem_append]
/-! Or -/
theorem or_says (ls : List (List Span)) (hok : ∀ s ∈ ls.flatten, okS s = true) (h : ls.flatten.length ≤ big) (hl : ls.length ≤ big) : ∃ R, F17 (ls, ()) = some (R, ()) ∧ Nrm R ∧ (∀ x, den R x ↔ den ls.flatten x) ∧ R.length ≤ ls.flatten.length := by
  obtain ⟨h1, h2, h3⟩ := kOf_says ls.flatten hok
  exact ⟨_, F17_is ls hok h hl, h1, h2, h3⟩
/-! Not -/
def Rng (L : List Span) : Prop := ∀ s ∈ L, pBeg ≤ (kOf s).1
theorem le_end (s : Span) : (kOf s).2 ≤ pEnd := by
  rw [kOf_2]
  split
  · grind
  · have := lt_end s.hi s.isIn; grind
theorem rng_in {L : List Span} (h : Rng L) : ∀ p ∈ L.map kOf, pBeg ≤ p.1 ∧ p.2 ≤ pEnd := by
  intro p hp
  obtain ⟨s, h1, rfl⟩ := List.mem_map.1 hp
  exact ⟨h s h1, le_end s⟩
theorem rng_den {L : List Span} (h : Rng L) {x : Pt} (hx : den L x) : pBeg ≤ x ∧ x < pEnd := by
  obtain ⟨p, h1, h2, h3⟩ := hx
  obtain ⟨h4, h5⟩ := rng_in h p h1
  grind
theorem den_rng {L : List Span} (hn : Nrm L) (h : ∀ x, den L x → pBeg ≤ x) : Rng L := by
  intro s hs
  have hm : kOf s ∈ L.map kOf := List.mem_map.2 ⟨s, hs, rfl⟩
  have h2 := hn.1.2 _ hm
  exact h _ ⟨_, hm, by grind, h2⟩
theorem gaps_says (l : List Span) (hn : Nrm l) (hr : Rng l) : Nrm ((Pc.nf (Pc.gaps pBeg (l.map kOf) pEnd)).map spanP) ∧ (∀ x, den ((Pc.nf (Pc.gaps pBeg (l.map kOf) pEnd)).map spanP) x ↔ pBeg ≤ x ∧ x < pEnd ∧ ¬ den l x) ∧ ((Pc.nf (Pc.gaps pBeg (l.map kOf) pEnd)).map spanP).length ≤ l.length + 1 := by
  have h1 := nf_says (gapsD (least, false, false) (l.map pieceOf)) (gapsD_ok _ _ rfl fun p hp => by
    obtain ⟨s, h5, rfl⟩ := List.mem_map.1 hp
    exact ⟨(pieceOf_ok (nrm_ok hn s h5)).1, pieceOf_fe s⟩)
  rw [gapsD_pp, map_pp, gapsD_len, List.length_map (f := pieceOf)] at h1
  refine ⟨h1.1, fun x => ?_, h1.2.2⟩
  exact (h1.2.1 x).trans (Pc.mem_gaps hn.1 (rng_in hr) x)
/-! And -/
theorem and_says (a b : List Span) (ha : Nrm a) (hb : Nrm b) (hl : a.length ≤ 1000000) (hl2 : b.length ≤ 1000000) : ∃ R, F16 (a, b, ()) = some (R, ()) ∧ Nrm R ∧ (∀ x, den R x ↔ den a x ∧ den b x) ∧ R.length ≤ a.length * b.length := by
  refine ⟨_, F16_is a b (nrm_ok ha) (nrm_ok hb) hl hl2, ?_⟩
  have h := nf_says ((a.map pieceOf).flatMap fun p => (b.map pieceOf).map (meetD p)) (fun p hp => by
    obtain ⟨x, hx, hp⟩ := List.mem_flatMap.1 hp
    obtain ⟨y, hy, rfl⟩ := List.mem_map.1 hp
    obtain ⟨s, hs, rfl⟩ := List.mem_map.1 hx
    obtain ⟨t, ht, rfl⟩ := List.mem_map.1 hy
    exact meetD_ok (pieceOf_ok (nrm_ok ha s hs)) (pieceOf_ok (nrm_ok hb t ht)))
  have e : ((a.map pieceOf).flatMap fun p => (b.map pieceOf).map (meetD p)).map Piece.pp = Pc.meets (a.map kOf) (b.map kOf) := by
    unfold Pc.meets
    rw [← map_pp a, ← map_pp b, List.map_flatMap, List.flatMap_map]
    generalize List.map pieceOf b = B
    have hq : ∀ p : Piece, List.map Piece.pp (List.map (meetD p) B) = List.map (Pc.meet p.pp) (List.map Piece.pp B) := fun p => by
      rw [List.map_map, List.map_map]
      exact List.map_congr_left fun q _ => meetD_pp p q
    simp only [hq]
    rw [List.map_map, List.flatMap_map]
    rfl
  have hlen : ((a.map pieceOf).flatMap fun p => (b.map pieceOf).map (meetD p)).length = a.length * b.length := by
    clear h e hl ha
    induction a with
    | nil => simp
    | cons p l ih =>
      rw [List.map_cons, List.flatMap_cons, List.length_append, ih, List.length_map, List.length_map, List.length_cons, Nat.add_mul, Nat.one_mul]
      exact Nat.add_comm _ _
  rw [e, hlen] at h
  exact ⟨h.1, fun x => by rw [h.2.1]; exact Pc.mem_meets, h.2.2⟩
end Go.Vx.Z
/-! Versions, spans that are made of numbers. -/
namespace Go.Vx
open Go
theorem within_eq (x : Int) (n : Nat) (hn : 0 < n) (hm : n ≤ 4611686018427387904) : ∃ k : Nat, k < n ∧ (bif decide (Int.tmod x (n : Int) < Int.ofNat 0) then some (IntKind.wrap IntKind.i64 (Int.tmod x (n : Int) + (n : Int)), ()) else some (Int.tmod x (n : Int), ())) = some ((k : Int), ()) := by
  have h1 : Int.tmod x n < n := Int.tmod_lt_of_pos x (by omega)
  have h2 : -(n : Int) < Int.tmod x n := by
    have := Int.lt_tmod_of_pos x (show (0 : Int) < n by omega)
    exact this
  cases hc : decide (Int.tmod x (n : Int) < Int.ofNat 0) with
  | true =>
    have hc' : Int.tmod x n < 0 := of_decide_eq_true hc
    refine ⟨(Int.tmod x n + n).toNat, by omega, ?_⟩
    rw [cond_true, wrap64 (by omega) (by omega)]
    congr 2
    omega
  | false =>
    have hc' : ¬ Int.tmod x n < 0 := of_decide_eq_false hc
    refine ⟨(Int.tmod x n).toNat, by omega, ?_⟩
    rw [cond_false]
    congr 2
    omega
def jn : List (List UInt8) → List UInt8
  | [] => []
  | [w] => w
  | w :: v :: l => w ++ 46 :: jn (v :: l)
namespace Z
set_option linter.unusedVariables false
set_option maxRecDepth 100000
theorem F29_is (x : Int) (n : Nat) (hn : 0 < n) (hm : n ≤ 4611686018427387904) : ∃ k : Nat, k < n ∧ F29 (x, Int.ofNat n, ()) = some ((k : Int), ()) := by
  rw [F29_eq]
  have : (!decide (Int.ofNat n = Int.ofNat 0)) = true := by simp; omega
  rw [this, cond_true]
  exact within_eq x n hn hm
end Z
end Go.Vx
/-! Raw spans, Make. -/
namespace Go.Vx.Z
open Go Go.Vx
set_option linter.unusedVariables false
set_option maxRecDepth 100000
theorem cmpW_least (w : List UInt8) : cmpW [48] w ≤ 0 := by
  unfold cmpW
  have h0 : wordKey [48] = (0, 1, [48]) := by decide
  rw [h0]
  unfold wordKey
  by_cases h : allDig w = true
  · rw [if_pos h]
    have h1 : cmpI 0 0 = 0 := rfl
    simp only [h1, orC, if_true]
    unfold allDig at h
    rw [Bool.and_eq_true] at h
    obtain ⟨h2, h3⟩ := h
    match w, h2, h3 with
    | [], _, h3 => cases h3
    | [c], h2, _ =>
      have h4 : cmpI 1 ((([c] : List UInt8).length : Nat) : Int) = 0 := rfl
      rw [if_pos h4]
      show orC (cmpU 48 c) 0 ≤ 0
      simp only [List.all_cons, List.all_nil, Bool.and_true] at h2
      unfold dig1 at h2
      rw [Bool.and_eq_true, decide_eq_true_eq] at h2
      unfold cmpU cmpI orC
      have h5 : (48 : UInt8).toNat = 48 := rfl
      rw [h5]
      split
      · omega
      · split
        · omega
        · split
          · omega
          · omega
    | c :: d :: l, _, _ =>
      have h4 : cmpI 1 (((c :: d :: l).length : Nat) : Int) = -1 := by
        unfold cmpI
        rw [if_pos (by simp only [List.length_cons]; omega)]
      rw [h4, if_neg (by omega)]
      omega
  · rw [if_neg h]
    show orC (cmpI 0 1) _ ≤ 0
    rw [show cmpI 0 1 = -1 from rfl]
    unfold orC
    rw [if_neg (by omega)]
    omega
theorem cmpP_least (l : List UInt8) : cmpP [48] l ≤ 0 := by
  unfold cmpP
  have h0 : preKey [48] = (0, [[48]]) := by decide
  rw [h0]
  unfold preKey
  by_cases h : l = []
  · rw [if_pos h]
    decide
  · rw [if_neg h]
    have h1 : cmpI 0 0 = 0 := rfl
    simp only [h1, orC, if_true]
    cases hs : splitB 46 l with
    | nil => exact absurd hs (splitB_ne 46 l)
    | cons w ws =>
      have h2 := cmpW_least w
      show orC (cmpW [48] w) (listC cmpW [] ws) ≤ 0
      unfold orC
      split
      · cases ws with
        | nil => exact Int.le_refl _
        | cons _ _ => show (-1 : Int) ≤ 0; omega
      · exact h2
theorem cmpI_zero_le {a : Int} (h : 0 ≤ a) : cmpI 0 a ≤ 0 := by
  unfold cmpI
  split
  · omega
  · split <;> omega
theorem orC_le {a b : Int} (ha : a ≤ 0) (hb : b ≤ 0) : orC a b ≤ 0 := by unfold orC; split <;> assumption
theorem least_le {v : Ver} (h : 0 ≤ v.1) (h1 : 0 ≤ v.2.1) (h2 : 0 ≤ v.2.2.1) : cmpV least v ≤ 0 := by
  have e : cmpV least v = orC (cmpI 0 v.1) (orC (cmpI 0 v.2.1) (orC (cmpI 0 v.2.2.1) (cmpP [48] (bs v.2.2.2.1)))) := rfl
  rw [e]
  exact orC_le (cmpI_zero_le h) (orC_le (cmpI_zero_le h1) (orC_le (cmpI_zero_le h2) (cmpP_least _)))
theorem pBeg_le {v : Ver} (b : Bool) (h : cmpV least v ≤ 0) : pBeg ≤ ptOf v b false := by
  have := le_pt least v false b
  have h2 : (decide (cmpV least v < 0) || cmpV least v == 0 && (!false || b)) = true := by
    by_cases h3 : cmpV least v < 0
    · simp [h3]
    · have : cmpV least v = 0 := by omega
      simp [this]
  rw [h2] at this
  exact of_decide_eq_true this
theorem mrg_ends (acc : List (Pt × Pt)) (p : Pt × Pt) (A B : Pt → Prop) (ha : ∀ q ∈ acc, A q.1 ∧ B q.2) (hp : A p.1 ∧ B p.2) : ∀ q ∈ Pc.mrg acc p, A q.1 ∧ B q.2 := by
  intro r hr
  unfold Pc.mrg at hr
  split at hr
  · rw [List.mem_singleton.1 hr]; exact hp
  · rename_i q hq
    have hqa := ha q (List.mem_of_getLast? hq)
    split at hr
    · split at hr
      · rcases List.mem_append.1 hr with h | h
        · exact ha r (List.dropLast_subset _ h)
        · rw [List.mem_singleton.1 h]; exact ⟨hqa.1, hp.2⟩
      · exact ha r hr
    · rcases List.mem_append.1 hr with h | h
      · exact ha r h
      · rw [List.mem_singleton.1 h]; exact hp
theorem mrgs_ends (A B : Pt → Prop) : ∀ (s acc : List (Pt × Pt)), (∀ q ∈ acc, A q.1 ∧ B q.2) → (∀ q ∈ s, A q.1 ∧ B q.2) → ∀ q ∈ s.foldl Pc.mrg acc, A q.1 ∧ B q.2
  | [], acc, ha, _ => ha
  | p :: s, acc, ha, hs => mrgs_ends A B s _ (mrg_ends acc p A B ha (hs p (by simp))) fun q hq => hs q (by simp [hq])
theorem nf_ends (A B : Pt → Prop) (l : List (Pt × Pt)) (h : ∀ q ∈ l, A q.1 ∧ B q.2) : ∀ q ∈ Pc.nf l, A q.1 ∧ B q.2 := by
  refine mrgs_ends A B _ [] (by simp) fun q hq => ?_
  have := (List.mergeSort_perm (l.filter Pc.full) fun p q => decide (p.1 ≤ q.1)).mem_iff.1 hq
  exact h q (List.mem_filter.1 this).1
end Go.Vx.Z
/-! SpanLaws -/
namespace Go.Vx.Z
open Go Go.Vx
set_option linter.unusedVariables false
set_option maxRecDepth 100000
theorem or2_says (a b : List Span) (ha : Nrm a) (hb : Nrm b) (hl : a.length + b.length ≤ 1000000) : ∃ R, F17 ([a, b], ()) = some (R, ()) ∧ Nrm R ∧ (∀ x, den R x ↔ den a x ∨ den b x) ∧ R.length ≤ a.length + b.length := by
  have e : [a, b].flatten = a ++ b := by simp
  obtain ⟨R, h1, h2, h3, h4⟩ := or_says [a, b] (fun s hs => by
    rw [e] at hs
    rcases List.mem_append.1 hs with h | h
    · exact nrm_ok ha s h
    · exact nrm_ok hb s h) (by rw [e, List.length_append]; simp only [big]; omega) (by show 2 ≤ big; decide)
  rw [e] at h3 h4
  exact ⟨R, h1, h2, fun x => by rw [h3, den_append], by simpa using h4⟩
theorem or_rng {a b R : List Span} (ha : Rng a) (hb : Rng b) (hR : Nrm R) (h : ∀ x, den R x ↔ den a x ∨ den b x) : Rng R := den_rng hR fun x hx => by
  rcases (h x).1 hx with h | h
  · exact (rng_den ha h).1
  · exact (rng_den hb h).1
theorem nrm_nil : Nrm [] ∧ Rng [] := ⟨⟨by simp [Pc.Nm], by simp⟩, by simp [Rng]⟩
end Go.Vx.Z
/-! SpanOps -/
namespace Go.Vx.Z
open Go Go.Vx
set_option linter.unusedVariables false
set_option maxRecDepth 100000
theorem obs {α β : Type} (x : α) (f : α → Option β) : Option.bind (some x) f = f x := by
  have h : ∀ o : Option α, o = some x → o.bind f = f x := by
    intro o ho
    subst ho
    rfl
  exact h _ rfl
def hv (L : List Span) (p : Ver) : Bool := hasK (L.map kOf) (ptV p)
end Go.Vx.Z
/-! Numbers, versions as texts. -/
namespace Go.Vx
open Go
set_option linter.unusedVariables false
def numB (l : List UInt8) : Nat := l.foldl (fun n c => 10 * n + (c.toNat - 48)) 0
theorem numB_snoc (l : List UInt8) (c : UInt8) : numB (l ++ [c]) = 10 * numB l + (c.toNat - 48) := by simp [numB]
namespace Z
set_option maxRecDepth 100000
theorem nil_bs (s : ByteArray) : (bl s == []) = decide (bs s = []) := by
  show (bs s == []) = _
  cases bs s <;> rfl
end Z
end Go.Vx
/-! strings.Join at " || ", spans as texts. -/
namespace Go.Vx
open Go
set_option linter.unusedVariables false
def ib (l : List UInt8) : List Int := l.map fun b => Int.ofNat b.1.1.1
theorem ib_ok (l : List UInt8) : okBytes (ib l) = true := by
  unfold okBytes
  rw [List.all_eq_true]
  intro n hn
  obtain ⟨b, _, rfl⟩ := List.mem_map.1 hn
  unfold isByte
  rw [Bool.and_eq_true, decide_eq_true_eq, decide_eq_true_eq]
  have := b.toNat_lt
  exact ⟨Int.natCast_nonneg _, by show ((b.toNat : Nat) : Int) ≤ 255; omega⟩
theorem bstr_ib (l : List UInt8) : bstr (ib l) = lit l := by
  have key : ∀ (l : List UInt8) (r : ByteArray), (ib l).foldl (fun r n => r.push (UInt8.ofNat n.toNat)) r = ⟨r.data ++ l.toArray⟩ := by
    intro l
    induction l with
    | nil => intro r; simp [ib]
    | cons b l ih =>
      intro r
      have h : ib (b :: l) = Int.ofNat b.1.1.1 :: ib l := rfl
      have h2 : UInt8.ofNat (Int.ofNat b.1.1.1).toNat = b := by
        show UInt8.ofNat b.toNat = b
        exact UInt8.ofNat_toNat
      rw [h, List.foldl_cons, ih, h2]
      simp [ByteArray.push]
  unfold bstr
  rw [key]
  apply bs_inj
  show (ByteArray.empty.data ++ l.toArray).toList = l
  rw [Array.toList_append]
  rfl
namespace Z
set_option maxRecDepth 100000
abbrev sep : ByteArray := lit [32, 124, 124, 32]
end Z
end Go.Vx
/-! Numbers as texts; scans. -/
namespace Go.Vx
open Go
set_option linter.unusedVariables false
theorem tw_len {α : Type} (p : α → Bool) : ∀ (l : List α), (l.takeWhile p).length ≤ l.length
  | [] => by simp
  | x :: l => by
    rw [List.takeWhile_cons]
    split
    · have := tw_len p l
      simp only [List.length_cons]; omega
    · simp
theorem tw_all {α : Type} {p : α → Bool} : ∀ (l : List α), (∀ c ∈ l, p c = true) → l.takeWhile p = l
  | [], _ => rfl
  | x :: l, h => by rw [List.takeWhile_cons, h x (by simp), if_pos rfl, tw_all l fun c hc => h c (by simp [hc])]
theorem tw_app {α : Type} {p : α → Bool} : ∀ (u x : List α), (∀ c ∈ u, p c = true) → (∀ c l, x = c :: l → p c = false) → (u ++ x).takeWhile p = u ∧ (u ++ x).dropWhile p = x
  | [], x, _, h => by
    cases x with
    | nil => exact ⟨rfl, rfl⟩
    | cons c l =>
      have hc := h c l rfl
      simp [hc]
  | y :: u, x, hu, h => by
    obtain ⟨h1, h2⟩ := tw_app u x (fun c hc => hu c (by simp [hc])) h
    have hy := hu y (by simp)
    simp [hy, h1, h2]
theorem tw_mem {α : Type} {p : α → Bool} : ∀ (l : List α), ∀ c ∈ l.takeWhile p, p c = true
  | [], c, h => by simp at h
  | x :: l, c, h => by
    rw [List.takeWhile_cons] at h
    split at h
    · rename_i hx
      rcases List.mem_cons.1 h with rfl | h
      · exact hx
      · exact tw_mem l c h
    · simp at h
theorem dw_head {α : Type} {p : α → Bool} : ∀ (l : List α) c m, l.dropWhile p = c :: m → p c = false
  | [], c, m, h => by simp at h
  | x :: l, c, m, h => by
    rw [List.dropWhile_cons] at h
    split at h
    · exact dw_head l c m h
    · rename_i hx
      injection h with h1 _
      rw [← h1]
      simpa using hx
theorem dw_drop {α : Type} (p : α → Bool) (l : List α) : l.dropWhile p = l.drop (l.takeWhile p).length := by
  have h := List.takeWhile_append_dropWhile (p := p) (l := l)
  conv => rhs; rw [← h]
  rw [List.drop_left']
  rw [h]
theorem tw_take {α : Type} (p : α → Bool) (l : List α) : l.takeWhile p = l.take (l.takeWhile p).length := by
  have h := List.takeWhile_append_dropWhile (p := p) (l := l)
  conv => rhs; rw [← h]
  rw [List.take_left']
  rw [h]
theorem scan {P E : Type} {B : P → Option (P ⊕ E)} (l : List UInt8) (p : UInt8 → Bool) (st : Nat → P) (en : Nat → E)
    (hs : ∀ i (h : i < l.length), p l[i] = true → B (st i) = some (.inl (st (i + 1)))) (hx : ∀ i (h : i < l.length), p l[i] = false → B (st i) = some (.inr (en i))) (he : B (st l.length) = some (.inr (en l.length))) :
    ∀ j, j ≤ l.length → loop B (st j) = some (en (j + ((l.drop j).takeWhile p).length)) := by
  have key : ∀ d j, l.length - j = d → j ≤ l.length → loop B (st j) = some (en (j + ((l.drop j).takeWhile p).length)) := by
    intro d
    induction d with
    | zero =>
      intro j h1 h2
      have : j = l.length := by omega
      subst this
      rw [List.drop_length]
      exact loop_end he
    | succ d ih =>
      intro j h1 h2
      have hlt : j < l.length := by omega
      rw [List.drop_eq_getElem_cons hlt, List.takeWhile_cons]
      cases hp : p l[j] with
      | true =>
        rw [if_pos rfl]
        have := ih (j + 1) (by omega) hlt
        rw [show j + (l[j] :: (l.drop (j + 1)).takeWhile p).length = j + 1 + ((l.drop (j + 1)).takeWhile p).length by simp; omega]
        exact loop_step (hs j hlt hp) this
      | false =>
        rw [if_neg (by decide)]
        exact loop_end (hx j hlt hp)
  intro j hj
  exact key _ j rfl hj
def numOf (l : List UInt8) : Option Nat := if l = [] ∨ 9 < l.length ∨ (1 < l.length ∧ l.head? = some 48) ∨ l.all dig1 = false then none else some (numB l)
def numR (l : List UInt8) : Int × Bool × Unit := match numOf l with
  | some n => ((n : Int), true, ())
  | none => (0, false, ())
theorem snoc_ind {α : Type} {P : List α → Prop} (h0 : P []) (h1 : ∀ l c, P l → P (l ++ [c])) (l : List α) : P l := by
  have key : ∀ m : List α, P m.reverse := fun m => by
    induction m with
    | nil => exact h0
    | cons x m ih => rw [List.reverse_cons]; exact h1 _ _ ih
  have := key l.reverse
  rwa [List.reverse_reverse] at this
theorem numB_le (l : List UInt8) : numB l + 23 ≤ 23 * 10 ^ l.length := by
  refine snoc_ind (P := fun l => numB l + 23 ≤ 23 * 10 ^ l.length) (by simp [numB]) (fun l c ih => ?_) l
  rw [numB_snoc, List.length_append, List.length_singleton, Nat.pow_succ]
  have := c.toNat_lt
  omega
theorem tw_dig (l : List UInt8) : ((l.takeWhile dig1).length = l.length) = (l.all dig1 = true) := by
  apply propext
  constructor
  · intro h
    rw [List.all_eq_true]
    intro c hc
    rw [← List.take_length (l := l), ← h, ← tw_take] at hc
    exact tw_mem l c hc
  · intro h
    rw [tw_all l (List.all_eq_true.1 h)]
namespace Z
set_option maxRecDepth 100000
theorem dig_lt {c : UInt8} (h : dig1 c = true) : 48 ≤ c.toNat ∧ c.toNat ≤ 57 := by
  unfold dig1 at h
  rwa [Bool.and_eq_true, decide_eq_true_eq, decide_eq_true_eq] at h
theorem dig_no {c : UInt8} (h : dig1 c = false) : c.toNat < 48 ∨ 57 < c.toNat := by
  unfold dig1 at h
  rw [Bool.and_eq_false_iff, decide_eq_false_iff_not, decide_eq_false_iff_not] at h
  omega
theorem num_next (s : ByteArray) (h9 : s.size ≤ 9) (i : Nat) (h : i < (bs s).length) (hd : dig1 (bs s)[i] = true) :
    IntKind.wrap IntKind.i64 (IntKind.wrap IntKind.i64 (Int.ofNat 10 * ((numB ((bs s).take i) : Nat) : Int)) + IntKind.wrap IntKind.i64 (IntKind.wrap IntKind.u8 (((bs s)[i].toNat : Int) - Int.ofNat 48))) = ((numB ((bs s).take (i + 1)) : Nat) : Int) := by
  have hle := numB_le ((bs s).take i)
  have hp : 10 ^ ((bs s).take i).length ≤ 10 ^ 9 := Nat.pow_le_pow_right (by omega) (by rw [List.length_take, ← bs_size]; omega)
  have h1 := dig_lt hd
  rw [List.take_succ_eq_append_getElem h, numB_snoc]
  generalize numB ((bs s).take i) = n at *
  have hn : n ≤ 23000000000 := by omega
  have e0 : Int.ofNat 10 * (n : Int) = ((10 * n : Nat) : Int) := by simp
  rw [e0, wrap64 (x := ((10 * n : Nat) : Int)) (by omega) (by omega), wrap8 (x := ((bs s)[i].toNat : Int) - Int.ofNat 48) (by show 0 ≤ ((bs s)[i].toNat : Int) - 48; omega) (by show ((bs s)[i].toNat : Int) - 48 ≤ 255; omega),
    wrap64 (x := ((bs s)[i].toNat : Int) - Int.ofNat 48) (by show _ ≤ ((bs s)[i].toNat : Int) - 48; omega) (by show ((bs s)[i].toNat : Int) - 48 ≤ _; omega)]
  have e1 : ((10 * n : Nat) : Int) + (((bs s)[i].toNat : Int) - Int.ofNat 48) = ((10 * n + ((bs s)[i].toNat - 48) : Nat) : Int) := by
    show ((10 * n : Nat) : Int) + (((bs s)[i].toNat : Int) - 48) = _
    omega
  rw [e1, wrap64 (by omega) (by omega)]
theorem lt48 {c : UInt8} : decide (((c.toNat : Nat) : Int) < Int.ofNat 48) = decide (c.toNat < 48) := by
  rw [decide_eq_decide]; show ((c.toNat : Int) < 48) ↔ _; omega
theorem gt57 {c : UInt8} : decide (((c.toNat : Nat) : Int) > Int.ofNat 57) = decide (57 < c.toNat) := by
  rw [decide_eq_decide]; show ((57 : Int) < c.toNat) ↔ _; omega
theorem B103_is (s : ByteArray) (h9 : s.size ≤ 9) : loop B103_0 (s, Int.ofNat 0, Int.ofNat s.size, Int.ofNat 0, ()) = some (if (bs s).all dig1 = true then .inr ((numB (bs s) : Int), ()) else .inl (0, false, ())) := by
  have hl := bs_size s
  have := scan (B := B103_0) (bs s) dig1 (fun i => (s, ((numB ((bs s).take i) : Nat) : Int), Int.ofNat s.size, (i : Int), ())) (fun i => if i = (bs s).length then .inr ((numB (bs s) : Int), ()) else .inl (0, false, ())) (fun i h hp => by
    have hlt : i < s.size := by omega
    have h1 := dig_lt hp
    rw [B103_0_eq]
    simp only [lt_in hlt, ge_zero, Bool.and_self, cond_true, bt_eq s i hlt, lt48, gt57, wrap_next hlt (by omega)]
    rw [decide_eq_false (show ¬ (bs s)[i].toNat < 48 by omega), decide_eq_false (show ¬ 57 < (bs s)[i].toNat by omega)]
    simp only [cond_false]
    rw [num_next s h9 i h hp]) (fun i h hp => by
    have hlt : i < s.size := by omega
    have h1 := dig_no hp
    rw [B103_0_eq]
    simp only [lt_in hlt, ge_zero, Bool.and_self, cond_true, bt_eq s i hlt, lt48, gt57]
    rw [if_neg (by omega)]
    generalize (bs s)[i] = c at *
    by_cases h2 : c.toNat < 48
    · rw [decide_eq_true h2]; rfl
    · rw [decide_eq_false h2, decide_eq_true (show 57 < c.toNat by omega)]; rfl) (by
    rw [B103_0_eq]
    rw [if_pos rfl, List.take_length]
    simp only [← hl, lt_out, cond_false]) 0 (Nat.zero_le _)
  rw [List.drop_zero, Nat.zero_add] at this
  simp only [tw_dig] at this
  exact this
theorem head_bt (s : ByteArray) (h : 0 < s.size) (c : UInt8) : (bt s (Int.ofNat 0) == ((c.toNat : Nat) : Int)) = ((bs s).head? == some c) := by
  have hl := bs_size s
  have hb := bt_eq s 0 h
  have h0 : (bs s).head? = some ((bs s)[0]'(by omega)) := by rw [List.head?_eq_getElem?, List.getElem?_eq_getElem (by omega)]
  have hb' : bt s (Int.ofNat 0) = (((bs s)[0]'(by omega)).toNat : Int) := hb
  rw [hb', h0]
  generalize (bs s)[0]'(by omega) = d
  rw [Bool.eq_iff_iff]
  simp only [beq_iff_eq, Option.some.injEq]
  constructor
  · intro h; exact UInt8.toNat_inj.1 (by omega)
  · intro h; rw [h]
theorem num_tail (s : ByteArray) (f : ((Int × Bool × Unit) ⊕ (Int × Unit)) → Option (Int × Bool × Unit)) (hf : f = fun r => Sum.elim (fun p => some (p.1, p.2.1, ())) (fun p => some (p.1, true, ())) r)
    (h1 : bs s ≠ []) (h2 : (bs s).length ≤ 9) (h3 : ¬ (1 < (bs s).length ∧ (bs s).head? = some 48)) : f (if (bs s).all dig1 = true then .inr ((numB (bs s) : Int), ()) else .inl (0, false, ())) = some (numR (bs s)) := by
  subst hf
  unfold numR numOf
  by_cases h : (bs s).all dig1 = true
  · rw [if_pos h, if_neg (by rw [h]; rintro (h' | h' | h' | h'); exact h1 h'; omega; exact h3 h'; cases h')]
    rfl
  · rw [if_neg h, if_pos (.inr (.inr (.inr (by simpa using h))))]
    rfl
theorem F103_is (s : ByteArray) : F103 (s, ()) = some (numR (bs s)) := by
  have hl := bs_size s
  rw [F103_eq]
  by_cases h0 : s.size < 1
  · rw [show decide (Int.ofNat s.size < Int.ofNat 1) = true from decide_eq_true (by show (s.size : Int) < 1; omega), cond_true]
    unfold numR numOf
    rw [if_pos (.inl (List.length_eq_zero_iff.1 (by omega)))]
    rfl
  rw [show decide (Int.ofNat s.size < Int.ofNat 1) = false from decide_eq_false (by show ¬ (s.size : Int) < 1; omega), cond_false]
  have hne : bs s ≠ [] := fun h => by
    have := congrArg List.length h
    simp only [List.length_nil] at this
    omega
  by_cases h9 : 9 < s.size
  · rw [show decide (Int.ofNat s.size > Int.ofNat 9) = true from decide_eq_true (by show (9 : Int) < s.size; omega), cond_true]
    unfold numR numOf
    rw [if_pos (.inr (.inl (by omega)))]
    rfl
  rw [show decide (Int.ofNat s.size > Int.ofNat 9) = false from decide_eq_false (by show ¬ (9 : Int) < s.size; omega), cond_false]
  rw [B103_is s (by omega), obs]
  have h48 := head_bt s (by omega) 48
  have h48' : (bt s (Int.ofNat 0) == Int.ofNat 48) = ((bs s).head? == some 48) := h48
  rw [show decide (Int.ofNat 0 < Int.ofNat s.size) = true from decide_eq_true (by show (0 : Int) < s.size; omega), cond_true, h48']
  by_cases h1 : 1 < s.size
  · rw [show decide (Int.ofNat s.size > Int.ofNat 1) = true from decide_eq_true (by show (1 : Int) < s.size; omega), cond_true]
    by_cases hh : (bs s).head? = some 48
    · have hn : numOf (bs s) = none := by
        unfold numOf
        rw [if_pos (.inr (.inr (.inl ⟨by omega, hh⟩)))]
      rw [hh]
      unfold numR
      rw [hn]
      rfl
    · rw [show ((bs s).head? == some 48) = false by simpa using hh, cond_false]
      exact num_tail s _ rfl hne (by omega) (fun h => hh h.2)
  · rw [show decide (Int.ofNat s.size > Int.ofNat 1) = false from decide_eq_false (by show ¬ (1 : Int) < s.size; omega), cond_false]
    exact num_tail s _ rfl hne (by omega) (fun h => by omega)
end Z
end Go.Vx
/-! Versions that may be. -/
namespace Go.Vx
open Go
set_option linter.unusedVariables false
def letter1 (c : UInt8) : Bool := (decide (97 ≤ c.toNat) && decide (c.toNat ≤ 122)) || (decide (65 ≤ c.toNat) && decide (c.toNat ≤ 90)) || c == 45
def idc (c : UInt8) : Bool := dig1 c || letter1 c
def wordOk (w : List UInt8) : Bool := !w.isEmpty && !(decide (1 < w.length) && (w.head? == some 48) && w.all dig1) && w.all idc
def preOk (w : List UInt8) : Bool := decide (w.length ≤ 40) && (w.isEmpty || (splitB 46 w).all wordOk)
def inN (A : Int) : Bool := decide (0 ≤ A) && decide (A ≤ 999999)
def rightB (A B C : Int) (pre : List UInt8) : Bool := inN A && inN B && inN C && preOk pre
theorem tw_allB {p : UInt8 → Bool} (l : List UInt8) : ((l.takeWhile p).length = l.length) = (l.all p = true) := by
  apply propext
  constructor
  · intro h
    rw [List.all_eq_true]
    intro c hc
    rw [← List.take_length (l := l), ← h, ← tw_take] at hc
    exact tw_mem l c hc
  · intro h
    rw [tw_all l (List.all_eq_true.1 h)]
namespace Z
set_option maxRecDepth 100000
abbrev idL : List UInt8 := [97, 98, 99, 100, 101, 102, 103, 104, 105, 106, 107, 108, 109, 110, 111, 112, 113, 114, 115, 116, 117, 118, 119, 120, 121, 122, 65, 66, 67, 68, 69, 70, 71, 72, 73, 74, 75, 76, 77, 78, 79, 80, 81, 82, 83, 84, 85, 86, 87, 88, 89, 90, 48, 49, 50, 51, 52, 53, 54, 55, 56, 57, 45]
theorem byte_all {P : UInt8 → Prop} (h : ∀ n, n < 256 → P (UInt8.ofNat n)) (c : UInt8) : P c := by
  have := h c.toNat c.toNat_lt
  rwa [UInt8.ofNat_toNat] at this
theorem idx_neg (l : List UInt8) (c : UInt8) : decide (Lib.indexByte l c < Int.ofNat 0) = !l.contains c := by
  induction l with
  | nil => rfl
  | cons x l ih =>
    unfold Lib.indexByte
    rw [List.contains_cons]
    by_cases hx : x = c
    · subst hx
      rw [if_pos (by simp)]
      simp
    · have h1 : (x == c) = false := by simpa using hx
      have h2 : (c == x) = false := by simpa using fun e => hx e.symm
      rw [h1, h2, Bool.false_or, ← ih]
      by_cases hl : Lib.indexByte l c = -1
      · rw [hl]; rfl
      · have := Lib.indexByte_ge l c
        have h3 : (Lib.indexByte l c == -1) = false := by simpa using hl
        simp only [h3]
        show decide ((if false = true then (-1 : Int) else if false = true then -1 else _) < Int.ofNat 0) = _
        rw [if_neg (by decide), if_neg (by decide), decide_eq_false (by show ¬ (Lib.indexByte l c + 1 < (0 : Int)); omega), decide_eq_false (by show ¬ (Lib.indexByte l c < (0 : Int)); omega)]
theorem id_in (c : UInt8) : idL.contains c = idc c := byte_all (P := fun c => idL.contains c = idc c) (by decide) c
theorem F133_id (c : UInt8) : F133 ((lit idL), ((c.toNat : Nat) : Int), ()) = some (Lib.indexByte idL c, ()) := by
  rw [F133_eq, F161_eq, xIndexByte_eq, obs, bs_lit]
  rw [Int.toNat_natCast, show c.toNat.toUInt8 = c from UInt8.ofNat_toNat]
theorem F144_is (s : ByteArray) (hs : s.size ≤ 1099511627776) : F144 (s, ()) = some (wordOk (bs s), ()) := by
  have hl := bs_size s
  rw [F144_eq]
  have := scan (B := B144_0) (bs s) idc (fun i => (s, Int.ofNat s.size, (i : Int), ())) (fun i => if i = (bs s).length then .inr (s, ()) else .inl (false, ())) (fun i h hp => by
    have hlt : i < s.size := by omega
    rw [B144_0_eq]
    simp only [lt_in hlt, ge_zero, Bool.and_self, cond_true, bt_eq s i hlt, wrap_next hlt (by omega)]
    rw [F133_id, obs]
    show (bif decide (Lib.indexByte idL _ < Int.ofNat 0) then _ else _) = _
    rw [idx_neg, id_in, hp]
    rfl) (fun i h hp => by
    have hlt : i < s.size := by omega
    rw [B144_0_eq]
    simp only [lt_in hlt, ge_zero, Bool.and_self, cond_true, bt_eq s i hlt]
    rw [F133_id, obs]
    show (bif decide (Lib.indexByte idL _ < Int.ofNat 0) then _ else _) = _
    rw [idx_neg, id_in, hp, if_neg (by omega)]
    rfl) (by
    rw [B144_0_eq]
    rw [if_pos rfl]
    simp only [← hl, lt_out, cond_false]) 0 (Nat.zero_le _)
  rw [List.drop_zero, Nat.zero_add] at this
  simp only [tw_allB] at this
  have h0 : loop B144_0 (s, Int.ofNat s.size, Int.ofNat 0, ()) = _ := this
  rw [h0, obs]
  by_cases ha : (bs s).all idc = true
  · rw [if_pos ha]
    unfold wordOk
    rw [ha, Bool.and_true]
    simp only [Sum.elim_inr, nil_bs]
    by_cases hn : bs s = []
    · rw [decide_eq_true hn, hn]; rfl
    · rw [decide_eq_false hn]
      have hpos : 0 < s.size := by
        rcases Nat.eq_zero_or_pos s.size with h | h
        · exact absurd (List.length_eq_zero_iff.1 (by omega)) hn
        · exact h
      rw [show (bs s).isEmpty = false by cases hb : bs s with | nil => exact absurd hb hn | cons x l => rfl]
      simp only [Bool.not_false, cond_true, Bool.true_and]
      have h48 : (bt s (Int.ofNat 0) == Int.ofNat 48) = ((bs s).head? == some 48) := head_bt s hpos 48
      rw [show decide (Int.ofNat s.size > Int.ofNat 1) = decide (1 < (bs s).length) by rw [decide_eq_decide]; show (1 : Int) < (s.size : Int) ↔ _; omega, show decide (Int.ofNat 0 < Int.ofNat s.size) = true from decide_eq_true (by show (0 : Int) < s.size; omega), h48, F149_is s hs, obs]
      cases decide (1 < (bs s).length) with
      | false => rfl
      | true =>
        simp only [cond_true, Bool.true_and]
        cases ((bs s).head? == some 48) with
        | false => rfl
        | true =>
          simp only [cond_true, Bool.true_and]
          congr 2
          unfold allDig
          rw [show (bs s).isEmpty = false by cases hb : bs s with | nil => exact absurd hb hn | cons x l => rfl, Bool.not_false, Bool.and_true]
  · rw [if_neg ha]
    unfold wordOk
    rw [show (bs s).all idc = false by simpa using ha, Bool.and_false]
    rfl
theorem F141_is (A : Int) : F141 (A, ()) = some (inN A, ()) := by
  rw [F141_eq]
  unfold inN
  rw [show decide (A ≥ Int.ofNat 0) = decide (0 ≤ A) from rfl]
  cases decide (0 ≤ A) <;> rfl
theorem F166_is (ws : List ByteArray) (hl : ws.length ≤ 1099511627776) (hw : ∀ w ∈ ws, w.size ≤ 1099511627776) : F166 (ws, ()) = some (if ws.findIdx (fun w => !wordOk (bs w)) < ws.length then (ws.findIdx (fun w => !wordOk (bs w)) : Int) else -1, ()) := by
  rw [F166_eq]
  have := loop_at (B := B166_0) ws (fun i => (ws, Int.ofNat ws.length, (i : Int), ())) (fun w => !wordOk (bs w)) (fun i => .inl ((i : Int), ())) (.inr ()) (fun i h => by
    rw [B166_0_eq]
    simp only [lt_in h, ge_zero, cond_true, at_in h, obs, wrap_next h (by omega)]
    rw [F143_eq, F144_is _ (hw _ (List.getElem_mem h)), obs, obs]
    cases wordOk (bs ws[i]) <;> rfl) (by
    rw [B166_0_eq]
    simp only [lt_out, cond_false])
  have h0 : loop B166_0 (ws, Int.ofNat ws.length, Int.ofNat 0, ()) = _ := this
  rw [h0, obs]
  split <;> rfl
theorem all_find {α : Type} (p : α → Bool) (l : List α) : (l.findIdx (fun w => !p w) < l.length) = (l.all p = false) := by
  apply propext
  constructor
  · intro h
    rw [List.all_eq_false]
    have := List.findIdx_getElem (w := h)
    exact ⟨_, List.getElem_mem h, by simpa using this⟩
  · intro h
    rw [List.all_eq_false] at h
    obtain ⟨x, h1, h2⟩ := h
    exact List.findIdx_lt_length_of_exists ⟨x, h1, by simpa using h2⟩
theorem F142_is (ws : List ByteArray) (hl : ws.length ≤ 1099511627776) (hw : ∀ w ∈ ws, w.size ≤ 1099511627776) : F142 (ws, ()) = some (!ws.all (fun w => wordOk (bs w)), ()) := by
  rw [F142_eq, F166_is ws hl hw, obs]
  by_cases h : ws.all (fun w => wordOk (bs w)) = false
  · rw [if_pos (by rw [all_find (fun w => wordOk (bs w))]; exact h), h]
    exact congrArg (fun z => some (z, ())) (decide_eq_true (Int.natCast_nonneg _))
  · rw [if_neg (by rw [all_find (fun w => wordOk (bs w))]; exact h), show ws.all (fun w => wordOk (bs w)) = true by simpa using h]
    rfl
theorem split_len (s : ByteArray) : (splitDot s).length ≤ s.size + 1 := by
  unfold splitDot
  rw [List.length_map, splitB_length, bs_size]
  have := List.count_le_length (a := (46 : UInt8)) (l := bs s)
  omega
theorem split_all (s : ByteArray) (p : List UInt8 → Bool) : (splitDot s).all (fun w => p (bs w)) = (splitB 46 (bs s)).all p := by
  unfold splitDot
  rw [List.all_map]
  rfl
theorem F105_is (A B C : Int) (s : ByteArray) : F105 (A, B, C, s, ()) = some (rightB A B C (bs s), ()) := by
  have hl := bs_size s
  rw [F105_eq, F141_is, F141_is, F141_is]
  simp only [obs]
  unfold rightB
  cases inN A with
  | false => rfl
  | true =>
  cases inN B with
  | false => rfl
  | true =>
  cases inN C with
  | false => rfl
  | true =>
    simp only [Bool.not_true, cond_false, Bool.true_and]
    unfold preOk
    by_cases h40 : s.size ≤ 40
    · rw [show decide (Int.ofNat s.size > Int.ofNat 40) = false from decide_eq_false (by show ¬ (40 : Int) < s.size; omega), decide_eq_true (show (bs s).length ≤ 40 by omega), nil_bs, cond_false, Bool.true_and]
      by_cases hn : bs s = []
      · rw [decide_eq_true hn, hn]; rfl
      · have hsl := split_len s
        have hsz := splitDot_sizes s
        rw [decide_eq_false hn, cond_false]
        have h102 : F102 (s, (lit [46]), ()) = some (splitDot s, ()) := F102_dot s (by omega)
        rw [h102, obs]
        simp only
        rw [F142_is (splitDot s) (by omega) (fun w hw => by have := hsz w hw; omega), obs]
        rw [show (bs s).isEmpty = false by cases hb : bs s with | nil => exact absurd hb hn | cons x l => rfl, Bool.false_or]
        simp only [Bool.not_not]
        rw [split_all s wordOk]
    · rw [show decide (Int.ofNat s.size > Int.ofNat 40) = true from decide_eq_true (by show (40 : Int) < s.size; omega), decide_eq_false (show ¬ (bs s).length ≤ 40 by omega)]
      rfl
end Z
end Go.Vx
