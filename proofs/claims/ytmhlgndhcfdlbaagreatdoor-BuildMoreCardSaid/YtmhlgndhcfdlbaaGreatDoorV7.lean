import Derived.Test.YtmhlgndhcfdlbaaGreatDoorV5
set_option linter.unusedSimpArgs false
/-! The document's Right answers of any pairs. -/
namespace Go.Vx
open Go
set_option linter.unusedVariables false
/-- A round goes on to what holds, or ends. -/
def Onw {P E : Type} (next : P → Prop) (o : Option (P ⊕ E)) : Prop := (∃ q, o = some (.inl q) ∧ next q) ∨ ∃ e, o = some (.inr e)
theorem Onw.go {P E : Type} {next : P → Prop} {q : P} (h : next q) : Onw (E := E) next (some (.inl q)) := .inl ⟨q, rfl, h⟩
theorem Onw.fin {P E : Type} {next : P → Prop} {e : E} : Onw next (some (.inr e)) := .inr ⟨e, rfl⟩
/-- Rounds that count up to n come to an end. -/
theorem loop_tot {P E : Type} {B : P → Option (P ⊕ E)} (n : Nat) (I : Nat → P → Prop) (hs : ∀ i p, i < n → I i p → Onw (I (i + 1)) (B p)) (he : ∀ p, I n p → ∃ e, B p = some (.inr e)) : ∀ k p, k ≤ n → I k p → ∃ e, loop B p = some e := by
  have key : ∀ (d k : Nat) p, n - k = d → k ≤ n → I k p → ∃ e, loop B p = some e := by
    intro d
    induction d with
    | zero =>
      intro k p h1 h2 hI
      have : k = n := by omega
      subst this
      obtain ⟨e, h⟩ := he p hI
      exact ⟨e, loop_end h⟩
    | succ d ih =>
      intro k p h1 h2 hI
      rcases hs k p (by omega) hI with ⟨q, h3, h4⟩ | ⟨e, h3⟩
      · obtain ⟨e, h5⟩ := ih (k + 1) q (by omega) (by omega) h4
        exact ⟨e, loop_step h3 h5⟩
      · exact ⟨e, loop_end h3⟩
  intro k p hk hI
  exact key (n - k) k p rfl hk hI
end Go.Vx
namespace Go.Vx.Z
open Go Go.Vx
set_option linter.unusedVariables false
set_option maxRecDepth 100000
/-- It answers: a truth. -/
def Ans (o : Option (Bool × Unit)) : Prop := ∃ b, o = some (b, ())
theorem in_size {i n : Nat} (h : i < n) : (decide (Int.ofNat 0 ≤ (i : Int)) && decide ((i : Int) < Int.ofNat n)) = true := by
  rw [ge_zero, lt_in h]; rfl
theorem B41_0_tot (s : ByteArray) (hs : s.size ≤ 1000) : ∃ e, loop B41_0 (s, Int.ofNat 0, ()) = some e := by
  refine loop_tot (B := B41_0) s.size (fun i p => p = (s, (i : Int), ())) (fun i p hi hp => ?_) (fun p hp => ?_) 0 _ (by omega) rfl
  · subst hp
    rw [B41_0_eq, lt_in hi, ge_zero, wrap_next hi (by omega)]
    simp only [Bool.and_self, cond_true]
    repeat' refine go_bif (fun _ => ?_) (fun _ => ?_)
    all_goals first | exact Onw.go rfl | exact Onw.fin
  · subst hp
    rw [B41_0_eq, lt_out]
    exact ⟨_, rfl⟩
theorem B41_1_tot (s : ByteArray) (l : List ByteArray) (hl : l.length ≤ 100000) : ∃ e, loop B41_1 (s, l, Int.ofNat 0, ()) = some e := by
  refine loop_tot (B := B41_1) l.length (fun i p => p = (s, l, (i : Int), ())) (fun i p hi hp => ?_) (fun p hp => ?_) 0 _ (by omega) rfl
  · subst hp
    rw [B41_1_eq, lt_in hi, ge_zero, at_in hi, wrap_next hi (by omega)]
    simp only [cond_true, Option.bind_some]
    repeat' refine go_bif (fun _ => ?_) (fun _ => ?_)
    all_goals first | exact Onw.go rfl | exact Onw.fin
  · subst hp
    rw [B41_1_eq, lt_out]
    exact ⟨_, rfl⟩
/-- The parts between slashes: some, the last one shorter where there are two. -/
theorem F62_tot (s : ByteArray) (hs : s.size ≤ 1000) : ∃ l, F62 (s, ()) = some (l, ()) ∧ l.length ≤ s.size + 1 ∧ ∃ h : 0 < l.length, 2 ≤ l.length → l[l.length - 1].size + 1 ≤ s.size := by
  obtain ⟨⟨f, l⟩, h1, h2⟩ := loop_upto (B := B62_0) (s.size + 1) (fun i (b : Nat × List ByteArray) => (s, (b.1 : Int), (i : Int), b.2, ())) (fun b => (b.2, ()))
    (fun i b => b.1 ≤ i ∧ (b.2 = [] ∨ 1 ≤ b.1) ∧ b.2.length ≤ i ∧ (i = s.size + 1 → ∃ h : 0 < b.2.length, 2 ≤ b.2.length → b.2[b.2.length - 1].size + 1 ≤ s.size)) (by
      rintro i hi ⟨f, l⟩ ⟨q1, q2, q3, q4⟩
      simp only at q1 q2 q3 q4 ⊢
      have e1 : decide ((i : Int) ≤ Int.ofNat s.size) = true := by simp; omega
      have e2 : ∀ z : ByteArray, decide (l.length + [z].length ≤ 8796093022208) = true := by
        intro z; rw [decide_eq_true_eq]; simp only [List.length_cons, List.length_nil]; omega
      have e3 : (decide (Int.ofNat 0 ≤ (f : Int)) && (decide ((f : Int) ≤ (i : Int)) && decide ((i : Int) ≤ Int.ofNat s.size))) = true := by
        simp; omega
      rw [B62_0_eq, e3, e1, wrap_next hi (by omega)]
      simp only [cond_true, e2]
      by_cases he : i = s.size
      · have e4 : ((i : Int) == Int.ofNat s.size) = true := by simp; omega
        rw [e4, cond_true]
        refine ⟨(i + 1, l ++ [ByteArray.extract s (Int.toNat (f : Int)) (Int.toNat (i : Int))]), rfl, by simp only; omega, by simp only; omega, by simp; omega, fun _ => ⟨by simp, fun h2 => ?_⟩⟩
        simp only [List.length_append, List.length_cons, List.length_nil] at h2
        have hf : 1 ≤ f := by
          rcases q2 with h | h
          · rw [h] at h2; simp at h2
          · exact h
        simp only [List.length_append, List.length_cons, List.length_nil, Nat.add_sub_cancel, Nat.zero_add, List.getElem_concat_length, ByteArray.size_extract, Int.toNat_natCast]
        omega
      · have e4 : ((i : Int) == Int.ofNat s.size) = false := by
          rw [← Bool.not_eq_true]
          simp
          omega
        rw [e4, cond_false, in_size (show i < s.size by omega), cond_true]
        cases bt s (i : Int) == Int.ofNat 47 with
        | true => exact ⟨(i + 1, l ++ [ByteArray.extract s (Int.toNat (f : Int)) (Int.toNat (i : Int))]), rfl, by simp only; omega, by simp only; omega, by simp; omega, fun h => by omega⟩
        | false => exact ⟨(f, l), rfl, by simp only; omega, q2, by simp only; omega, fun h => by omega⟩) (by
      rintro ⟨f, l⟩ ⟨q1, q2, q3, q4⟩
      simp only
      rw [B62_0_eq]
      have e1 : decide (((s.size + 1 : Nat) : Int) ≤ Int.ofNat s.size) = false := by simp; omega
      rw [e1]
      rfl) 0 (0, []) (by omega) ⟨by simp, .inl rfl, by simp, fun h => by omega⟩
  refine ⟨l, ?_, h2.2.2.1, h2.2.2.2 rfl⟩
  rw [F62_eq]
  have h1' : loop B62_0 (s, Int.ofNat 0, Int.ofNat 0, [], ()) = some (l, ()) := h1
  rw [h1', Option.bind_some]
theorem elim_ans {α β : Type} {f : α → Option (Bool × Unit)} {g : β → Option (Bool × Unit)} (x : α ⊕ β) (hf : ∀ a, Ans (f a)) (hg : ∀ b, Ans (g b)) : Ans (Sum.elim f g x) := by
  cases x
  · exact hf _
  · exact hg _
theorem F41_tot (s : ByteArray) (hs : s.size ≤ 1000) : Ans (F41 (s, ())) := by
  rw [F41_eq]
  have hB : ∃ e, loop B41_0 (s, Int.ofNat 0, ()) = some e ∧ ∀ z, e = .inr z → z = (s, ()) := by
    obtain ⟨e, h1, h2⟩ := loop_inv (B := B41_0) (fun p => ∃ i : Nat, i ≤ s.size ∧ p = (s, (i : Int), ())) (fun p => (Int.ofNat s.size - p.2.1).toNat) (fun e => ∀ z, e = .inr z → z = (s, ())) (by
      rintro p ⟨i, hi, rfl⟩
      by_cases hlt : i < s.size
      · have key : ∀ o : Option ((ByteArray × Int × Unit) ⊕ OutsD os41_0), (o = some (.inl (s, ((i + 1 : Nat) : Int), ())) ∨ o = some (.inr (.inl (false, ())))) → (∃ q, o = some (.inl q) ∧ (∃ j : Nat, j ≤ s.size ∧ q = (s, (j : Int), ())) ∧ (Int.ofNat s.size - q.2.1).toNat < (Int.ofNat s.size - (i : Int)).toNat) ∨ ∃ e, o = some (.inr e) ∧ ∀ z, e = .inr z → z = (s, ()) := by
          rintro o (rfl | rfl)
          · exact .inl ⟨_, rfl, ⟨i + 1, hlt, rfl⟩, by simp; omega⟩
          · exact .inr ⟨_, rfl, fun z hz => by cases hz⟩
        refine key _ ?_
        rw [B41_0_eq, lt_in hlt, ge_zero, wrap_next hlt (by omega)]
        simp only [Bool.and_self, cond_true]
        refine go_bif (P := fun o => o = some (Sum.inl (s, ((i + 1 : Nat) : Int), ())) ∨ o = some (Sum.inr (Sum.inl (false, ())))) (fun _ => ?_) (fun _ => ?_)
        all_goals repeat' refine go_bif (P := fun o => o = some (Sum.inl (s, ((i + 1 : Nat) : Int), ())) ∨ o = some (Sum.inr (Sum.inl (false, ())))) (fun _ => ?_) (fun _ => ?_)
        all_goals first | exact .inl rfl | exact .inr rfl
      · have : i = s.size := by omega
        subst this
        rw [B41_0_eq, lt_out]
        exact .inr ⟨_, rfl, fun z hz => by injection hz with hz; exact hz.symm⟩) (s, Int.ofNat 0, ()) ⟨0, by omega, rfl⟩
    exact ⟨e, h1, h2⟩
  obtain ⟨e, h1, h2⟩ := hB
  rw [h1, Option.bind_some]
  cases e with
  | inl p => exact ⟨_, rfl⟩
  | inr p =>
    obtain rfl := h2 p rfl
    simp only [Sum.elim_inr]
    obtain ⟨l, h3, h4, _⟩ := F62_tot s hs
    rw [h3, Option.bind_some]
    simp only
    obtain ⟨e, h5⟩ := B41_1_tot s l (by omega)
    rw [h5, Option.bind_some]
    exact elim_ans e (fun a => ⟨_, rfl⟩) fun b => ⟨_, rfl⟩
theorem F85_tot (c : Int) : Ans (F85 (c, ())) := by
  rw [F85_eq]
  repeat' refine go_bif (fun _ => ?_) (fun _ => ?_)
  all_goals exact ⟨_, rfl⟩
theorem F126_tot (c : Int) : Ans (F126 (c, ())) := by
  rw [F126_eq]
  repeat' refine go_bif (fun _ => ?_) (fun _ => ?_)
  all_goals exact ⟨_, rfl⟩
theorem B108_0_tot (s : ByteArray) (hs : s.size ≤ 100000) : ∃ e, loop B108_0 (s, Int.ofNat 0, ()) = some e := by
  refine loop_tot (B := B108_0) s.size (fun i p => p = (s, (i : Int), ())) (fun i p hi hp => ?_) (fun p hp => ?_) 0 _ (by omega) rfl
  · subst hp
    obtain ⟨b1, hb1⟩ := F85_tot (bt s (i : Int))
    obtain ⟨b2, hb2⟩ := F126_tot (bt s (i : Int))
    rw [B108_0_eq, lt_in hi, ge_zero, wrap_next hi (by omega)]
    simp only [Bool.and_self, cond_true]
    rw [hb1, hb2]
    simp only [Option.bind_some]
    repeat' refine go_bif (fun _ => ?_) (fun _ => ?_)
    all_goals first | exact Onw.go rfl | exact Onw.fin
  · subst hp
    rw [B108_0_eq, lt_out]
    exact ⟨_, rfl⟩
theorem F108_tot (s : ByteArray) (hs : s.size ≤ 100000) : Ans (F108 (s, ())) := by
  obtain ⟨e, h⟩ := B108_0_tot s hs
  rw [F108_eq, h, F68_is s (by omega)]
  simp only [Option.bind_some]
  refine go_bif (fun _ => ⟨_, rfl⟩) (fun hne => ?_)
  have hpos : decide (Int.ofNat 0 < Int.ofNat s.size) = true := by
    cases hc : bs s with
    | nil => rw [bs_toList, hc] at hne; cases hne
    | cons a l =>
      have := bs_size s
      rw [hc] at this
      simp only [List.length_cons] at this
      simp; omega
  rw [hpos]
  simp only [cond_true]
  repeat' refine go_bif (fun _ => ?_) (fun _ => ?_)
  all_goals first | exact ⟨_, rfl⟩ | exact elim_ans e (fun a => ⟨_, rfl⟩) fun b => ⟨_, rfl⟩
end Go.Vx.Z
/-! The document's Right answers of any pairs: versions, manifests. -/
namespace Go.Vx.Z
open Go Go.Vx
set_option linter.unusedVariables false
set_option maxRecDepth 100000
theorem splitDot_len (s : ByteArray) : (splitDot s).length ≤ s.size + 1 := by
  have key : ∀ l : List UInt8, (splitB 46 l).length ≤ l.length + 1 := by
    intro l
    induction l with
    | nil => simp [splitB]
    | cons x l ih =>
      simp only [splitB]
      split
      · simp; omega
      · split <;> simp_all <;> omega
  unfold splitDot
  rw [List.length_map, bs_size]
  exact key _
theorem B80_0_tot (l : List ByteArray) (hl : l.length ≤ 100000) (hs : ∀ s ∈ l, s.size ≤ 100000) : ∃ e, loop B80_0 (l, Int.ofNat 0, ()) = some e := by
  refine loop_tot (B := B80_0) l.length (fun i p => p = (l, (i : Int), ())) (fun i p hi hp => ?_) (fun p hp => ?_) 0 _ (by omega) rfl
  · subst hp
    obtain ⟨b, hb⟩ := F108_tot l[i] (hs _ (List.getElem_mem hi))
    rw [B80_0_eq, lt_in hi, ge_zero, at_in hi, wrap_next hi (by omega)]
    simp only [cond_true, Option.bind_some]
    rw [hb]
    simp only [Option.bind_some]
    refine go_bif (fun _ => ?_) (fun _ => ?_)
    all_goals first | exact Onw.go rfl | exact Onw.fin
  · subst hp
    rw [B80_0_eq, lt_out]
    exact ⟨_, rfl⟩
theorem F80_tot (a b c : Int) (s : ByteArray) : Ans (F80 (a, b, c, s, ())) := by
  rw [F80_eq]
  refine go_bif (fun _ => ⟨_, rfl⟩) (fun _ => ?_)
  refine go_bif (fun _ => ⟨_, rfl⟩) (fun _ => ?_)
  refine go_bif (fun _ => ⟨_, rfl⟩) (fun _ => ?_)
  refine go_bif (fun _ => ⟨_, rfl⟩) (fun _ => ?_)
  refine go_bif (fun _ => ⟨_, rfl⟩) (fun h40 => ?_)
  refine go_bif (fun _ => ⟨_, rfl⟩) (fun _ => ?_)
  have hs : s.size ≤ 40 := by
    rw [decide_eq_false_iff_not] at h40
    simp at h40
    omega
  rw [F47_is s (by omega), Option.bind_some]
  obtain ⟨e, h⟩ := B80_0_tot (splitDot s) (by have := splitDot_len s; omega) fun x hx => by have := splitDot_sizes s x hx; omega
  simp only
  rw [h, Option.bind_some]
  exact elim_ans e (fun a => ⟨_, rfl⟩) fun b => ⟨_, rfl⟩
theorem B127_0_tot (s : ByteArray) (hs : s.size ≤ 100000) (n : Int) : ∃ e, loop B127_0 (s, n, Int.ofNat 0, ()) = some e := by
  refine loop_tot (B := B127_0) s.size (fun i p => ∃ n, p = (s, n, (i : Int), ())) (fun i p hi hp => ?_) (fun p hp => ?_) 0 _ (by omega) ⟨n, rfl⟩
  · obtain ⟨m, rfl⟩ := hp
    rw [B127_0_eq, lt_in hi, ge_zero, wrap_next hi (by omega)]
    simp only [Bool.and_self, cond_true]
    repeat' refine go_bif (fun _ => ?_) (fun _ => ?_)
    all_goals first | exact Onw.go ⟨_, rfl⟩ | exact Onw.fin
  · obtain ⟨m, rfl⟩ := hp
    rw [B127_0_eq, lt_out]
    exact ⟨_, rfl⟩
theorem elim_any {α β γ : Type} {P : γ → Prop} {f : α → γ} {g : β → γ} (x : α ⊕ β) (hf : ∀ a, P (f a)) (hg : ∀ b, P (g b)) : P (Sum.elim f g x) := by
  cases x
  · exact hf _
  · exact hg _
theorem F127_tot (s : ByteArray) (hs : s.size ≤ 100000) : ∃ n b, F127 (s, ()) = some (n, b, ()) := by
  obtain ⟨e, h⟩ := B127_0_tot s hs (Int.ofNat 0)
  rw [F127_eq, h]
  simp only [Option.bind_some]
  refine go_bif (P := fun o => ∃ n b, o = some (n, b, ())) (fun _ => ⟨_, _, rfl⟩) (fun h1 => ?_)
  have hpos : decide (Int.ofNat 0 < Int.ofNat s.size) = true := by
    rw [decide_eq_false_iff_not] at h1
    simp at h1 ⊢
    omega
  rw [hpos]
  simp only [cond_true]
  repeat' refine go_bif (P := fun o => ∃ n b, o = some (n, b, ())) (fun _ => ?_) (fun _ => ?_)
  all_goals first | exact ⟨_, _, rfl⟩ | exact elim_any (P := fun o => ∃ n b, o = some (n, b, ())) e (fun a => ⟨_, _, rfl⟩) fun b => ⟨_, _, rfl⟩
theorem F109_tot (s : ByteArray) (hs : s.size ≤ 1000) : ∃ r n, F109 (s, ()) = some (r, n, ()) := by
  obtain ⟨l, h1, h2, h3, h4⟩ := F62_tot s hs
  have hw : IntKind.wrap IntKind.i64 (Int.ofNat l.length - Int.ofNat 1) = ((l.length - 1 : Nat) : Int) := by
    rw [wrap64 (by simp; omega) (by simp; omega)]
    simp
    omega
  have hlt : l.length - 1 < l.length := by omega
  rw [F109_eq, h1]
  simp only [Option.bind_some]
  rw [hw, ge_zero, at_in hlt]
  simp only [cond_true, Option.bind_some]
  revert h4
  generalize l[l.length - 1] = y
  intro h4
  refine go_bif (P := fun o => ∃ r n, o = some (r, n, ())) (fun _ => ⟨_, _, rfl⟩) (fun h2l => ?_)
  refine go_bif (P := fun o => ∃ r n, o = some (r, n, ())) (fun _ => ⟨_, _, rfl⟩) (fun hne => ?_)
  have h2l' : 2 ≤ l.length := by
    rw [decide_eq_false_iff_not] at h2l
    simp at h2l
    omega
  have hy := h4 h2l'
  have hpos : 0 < y.size := by
    cases hc : bs y with
    | nil => rw [bs_toList, hc] at hne; cases hne
    | cons a l =>
      have := bs_size y
      rw [hc] at this
      simp only [List.length_cons] at this
      omega
  have e1 : decide (Int.ofNat 0 < Int.ofNat y.size) = true := by simp; omega
  have e2 : (decide (Int.ofNat 1 ≤ Int.ofNat y.size) && decide (Int.ofNat y.size ≤ Int.ofNat y.size)) = true := by simp; omega
  have e3 : IntKind.wrap IntKind.i64 (IntKind.wrap IntKind.i64 (Int.ofNat s.size - Int.ofNat y.size) - Int.ofNat 1) = ((s.size - y.size - 1 : Nat) : Int) := by
    rw [wrap64 (x := Int.ofNat s.size - Int.ofNat y.size) (by simp; omega) (by simp; omega), wrap64 (by simp; omega) (by simp; omega)]
    simp
    omega
  have e4 : (decide (Int.ofNat 0 ≤ ((s.size - y.size - 1 : Nat) : Int)) && decide (((s.size - y.size - 1 : Nat) : Int) ≤ Int.ofNat s.size)) = true := by
    simp; omega
  obtain ⟨n, b, h5⟩ := F127_tot (ByteArray.extract y 1 (Int.toNat (Int.ofNat y.size))) (by rw [ByteArray.size_extract]; simp; omega)
  rw [e1, e2, e3, e4, h5]
  simp only [cond_true, Option.bind_some]
  repeat' refine go_bif (P := fun o => ∃ r n, o = some (r, n, ())) (fun _ => ?_) (fun _ => ?_)
  all_goals exact ⟨_, _, rfl⟩
theorem F42_tot (s : ByteArray) (hs : s.size ≤ 1000) (a b c : Int) (q : ByteArray) : Ans (F42 (s, a, b, c, q, ())) := by
  obtain ⟨b1, h1⟩ := F41_tot s hs
  obtain ⟨b2, h2⟩ := F80_tot a b c q
  obtain ⟨r, n, h3⟩ := F109_tot s hs
  rw [F42_eq, h1, F63_eq, h2, F82_eq, h3]
  simp only [Option.bind_some]
  cases b1 with
  | false => exact ⟨_, rfl⟩
  | true =>
    cases b2 with
    | false => exact ⟨_, rfl⟩
    | true =>
      cases n == a with
      | true => exact ⟨_, rfl⟩
      | false => cases n == Int.ofNat 0 <;> exact ⟨_, rfl⟩
theorem wrap_prev' {i : Nat} (h : 0 < i) (hi : i ≤ 100000) : IntKind.wrap IntKind.i64 ((i : Int) - Int.ofNat 1) = ((i - 1 : Nat) : Int) := by
  rw [wrap64 (by simp; omega) (by simp; omega)]
  simp
  omega
theorem gt_zero {i : Nat} : decide ((i : Int) > Int.ofNat 0) = true → 0 < i := fun h => by simpa using h
theorem F18_tot (md : ByteArray) (rq ex : List Req) (sw : List Swp) (hm : md.size ≤ 1000) (hr : ∀ r ∈ rq, r.1.size ≤ 1000) (he : ∀ r ∈ ex, r.1.size ≤ 1000 ∧ okR r = true) (hs : ∀ s ∈ sw, s.1.size ≤ 1000 ∧ s.2.1.size ≤ 1000)
    (h1 : rq.length ≤ 100000) (h2 : ex.length ≤ 100000) (h3 : sw.length ≤ 100000) : Ans (F18 (md, rq, ex, sw, ())) := by
  have k0 : ∃ e, loop B18_0 (Int.ofNat 0, md, rq, ex, sw, ()) = some e ∧ ∀ z, e = .inr z → z = (md, rq, ex, sw, ()) := by
    refine loop_inv (B := B18_0) (fun p => ∃ i : Nat, i ≤ rq.length ∧ p = ((i : Int), md, rq, ex, sw, ())) (fun p => (Int.ofNat rq.length - p.1).toNat) (fun e => ∀ z, e = .inr z → z = (md, rq, ex, sw, ())) ?_ _ ⟨0, by omega, rfl⟩
    rintro p ⟨i, hi, rfl⟩
    by_cases hlt : i < rq.length
    · have key : ∀ o : Option ((Int × ByteArray × List Req × List Req × List Swp × Unit) ⊕ OutsD os18_0), (o = some (.inl (((i + 1 : Nat) : Int), md, rq, ex, sw, ())) ∨ o = some (.inr (.inl (false, ())))) → (∃ q, o = some (.inl q) ∧ (∃ j : Nat, j ≤ rq.length ∧ q = ((j : Int), md, rq, ex, sw, ())) ∧ (Int.ofNat rq.length - q.1).toNat < (Int.ofNat rq.length - (i : Int)).toNat) ∨ ∃ e, o = some (.inr e) ∧ ∀ z, e = .inr z → z = (md, rq, ex, sw, ()) := by
        rintro o (rfl | rfl)
        · exact .inl ⟨_, rfl, ⟨i + 1, hlt, rfl⟩, by simp; omega⟩
        · exact .inr ⟨_, rfl, fun z hz => by cases hz⟩
      refine key _ ?_
      obtain ⟨b, hb⟩ := F42_tot rq[i].1 (hr _ (List.getElem_mem hlt)) rq[i].2.1 rq[i].2.2.1 rq[i].2.2.2.1 rq[i].2.2.2.2.1
      rw [B18_0_eq, lt_in hlt, ge_zero, at_in hlt, wrap_next hlt (by omega)]
      simp only [cond_true, Option.bind_some]
      rw [hb]
      simp only [Option.bind_some]
      refine go_bif (P := fun o => o = _ ∨ o = _) (fun _ => .inr rfl) (fun _ => ?_)
      refine go_bif (P := fun o => o = _ ∨ o = _) (fun _ => .inr rfl) (fun _ => ?_)
      refine go_bif (P := fun o => o = _ ∨ o = _) (fun hz => ?_) (fun _ => .inl rfl)
      have hz' := gt_zero hz
      have hp : i - 1 < rq.length := by omega
      rw [wrap_prev' hz' (by omega), ge_zero, at_in hp]
      simp only [cond_true, Option.bind_some]
      exact go_bif (P := fun o => o = _ ∨ o = _) (fun _ => .inr rfl) (fun _ => .inl rfl)
    · have : i = rq.length := by omega
      subst this
      rw [B18_0_eq, lt_out]
      exact .inr ⟨_, rfl, fun z hz => by injection hz with hz; exact hz.symm⟩
  have k1 : ∃ e, loop B18_1 (Int.ofNat 0, md, rq, ex, sw, ()) = some e ∧ ∀ z, e = .inr z → z = (md, rq, ex, sw, ()) := by
    refine loop_inv (B := B18_1) (fun p => ∃ i : Nat, i ≤ ex.length ∧ p = ((i : Int), md, rq, ex, sw, ())) (fun p => (Int.ofNat ex.length - p.1).toNat) (fun e => ∀ z, e = .inr z → z = (md, rq, ex, sw, ())) ?_ _ ⟨0, by omega, rfl⟩
    rintro p ⟨i, hi, rfl⟩
    by_cases hlt : i < ex.length
    · have key : ∀ o : Option ((Int × ByteArray × List Req × List Req × List Swp × Unit) ⊕ OutsD os18_1), (o = some (.inl (((i + 1 : Nat) : Int), md, rq, ex, sw, ())) ∨ o = some (.inr (.inl (false, ())))) → (∃ q, o = some (.inl q) ∧ (∃ j : Nat, j ≤ ex.length ∧ q = ((j : Int), md, rq, ex, sw, ())) ∧ (Int.ofNat ex.length - q.1).toNat < (Int.ofNat ex.length - (i : Int)).toNat) ∨ ∃ e, o = some (.inr e) ∧ ∀ z, e = .inr z → z = (md, rq, ex, sw, ()) := by
        rintro o (rfl | rfl)
        · exact .inl ⟨_, rfl, ⟨i + 1, hlt, rfl⟩, by simp; omega⟩
        · exact .inr ⟨_, rfl, fun z hz => by cases hz⟩
      refine key _ ?_
      obtain ⟨b, hb⟩ := F42_tot ex[i].1 (he _ (List.getElem_mem hlt)).1 ex[i].2.1 ex[i].2.2.1 ex[i].2.2.2.1 ex[i].2.2.2.2.1
      rw [B18_1_eq, lt_in hlt, ge_zero, at_in hlt, wrap_next hlt (by omega)]
      simp only [cond_true, Option.bind_some]
      rw [hb]
      simp only [Option.bind_some]
      refine go_bif (P := fun o => o = _ ∨ o = _) (fun _ => .inr rfl) (fun _ => ?_)
      refine go_bif (P := fun o => o = _ ∨ o = _) (fun hz => ?_) (fun _ => .inl rfl)
      have hz' := gt_zero hz
      have hp : i - 1 < ex.length := by omega
      rw [wrap_prev' hz' (by omega), ge_zero, at_in hp]
      simp only [cond_true, Option.bind_some]
      rw [F40_is ex[i - 1] ex[i] (he _ (List.getElem_mem hp)).2 (he _ (List.getElem_mem hlt)).2]
      simp only [Option.bind_some]
      exact go_bif (P := fun o => o = _ ∨ o = _) (fun _ => .inr rfl) (fun _ => .inl rfl)
    · have : i = ex.length := by omega
      subst this
      rw [B18_1_eq, lt_out]
      exact .inr ⟨_, rfl, fun z hz => by injection hz with hz; exact hz.symm⟩
  have k2 : ∃ e, loop B18_2 (Int.ofNat 0, md, rq, ex, sw, ()) = some e := by
    refine loop_tot (B := B18_2) sw.length (fun i p => p = ((i : Int), md, rq, ex, sw, ())) (fun i p hlt hp => ?_) (fun p hp => ?_) 0 _ (by omega) rfl
    · subst hp
      obtain ⟨q1, q2⟩ := hs _ (List.getElem_mem hlt)
      obtain ⟨b1, hb1⟩ := F41_tot sw[i].1 q1
      obtain ⟨b2, hb2⟩ := F42_tot sw[i].2.1 q2 sw[i].2.2.1 sw[i].2.2.2.1 sw[i].2.2.2.2.1 sw[i].2.2.2.2.2.1
      rw [B18_2_eq, lt_in hlt, ge_zero, at_in hlt, wrap_next hlt (by omega)]
      simp only [cond_true, Option.bind_some]
      rw [hb1, hb2]
      simp only [Option.bind_some]
      refine go_bif (fun _ => .fin) (fun _ => ?_)
      refine go_bif (fun _ => .fin) (fun _ => ?_)
      refine go_bif (fun _ => .fin) (fun _ => ?_)
      refine go_bif (fun hz => ?_) (fun _ => .go rfl)
      have hz' := gt_zero hz
      have hp : i - 1 < sw.length := by omega
      rw [wrap_prev' hz' (by omega), ge_zero, at_in hp]
      simp only [cond_true, Option.bind_some]
      exact go_bif (fun _ => .fin) (fun _ => .go rfl)
    · subst hp
      rw [B18_2_eq, lt_out]
      exact ⟨_, rfl⟩
  obtain ⟨b, hb⟩ := F41_tot md hm
  obtain ⟨e0, f0, g0⟩ := k0
  obtain ⟨e1, f1, g1⟩ := k1
  obtain ⟨e2, f2⟩ := k2
  rw [F18_eq, hb, f0]
  simp only [Option.bind_some]
  refine go_bif (fun _ => ⟨_, rfl⟩) (fun _ => ?_)
  refine go_bif (fun _ => ⟨_, rfl⟩) (fun _ => ?_)
  refine go_bif (fun _ => ⟨_, rfl⟩) (fun _ => ?_)
  refine go_bif (fun _ => ⟨_, rfl⟩) (fun _ => ?_)
  cases e0 with
  | inl z => exact ⟨_, rfl⟩
  | inr z =>
    obtain rfl := g0 z rfl
    simp only [Sum.elim_inr]
    rw [f1, Option.bind_some]
    cases e1 with
    | inl z => exact ⟨_, rfl⟩
    | inr z =>
      obtain rfl := g1 z rfl
      simp only [Sum.elim_inr]
      rw [f2, Option.bind_some]
      exact elim_ans e2 (fun a => ⟨_, rfl⟩) fun b => ⟨_, rfl⟩
end Go.Vx.Z
