import Derived.Test.YtildhhdbikpbaaaGreatDoorV5
import Derived.Test.YtildhhdbikpbaaaGreatDoorV4
set_option linter.unusedSimpArgs false
/-! Versions that are bumped. -/
namespace Go.Vx.Z
open Go Go.Vx
set_option linter.unusedVariables false
set_option maxRecDepth 100000
abbrev Num3 := Int × Int × Int
def bump0 (A : Int) : Option Num3 := if A < 999999 then some (A + 1, 0, 0) else none
def bump1 (A B : Int) : Option Num3 := if B < 999999 then some (A, B + 1, 0) else bump0 A
def bump2 (A B C : Int) : Option Num3 := if C < 999999 then some (A, B, C + 1) else bump1 A B
def bumpV (k : Nat) (A B C : Int) : Option Num3 := match k with
 | 0 => bump0 A
 | 1 => bump1 A B
 | _ => bump2 A B C
def bumpR (o : Option Num3) : Int × Int × Int × ByteArray × Bool × Bool × Unit := match o with
 | some t => (t.1, t.2.1, t.2.2, lit [48], false, false, ())
 | none => (0, 0, 0, lit [], false, true, ())
def bumpS (o : Option Num3) : (Int × Int × Int × ByteArray × Bool × Bool × Unit) ⊕ (Int × Int × Int × ByteArray × Bool × Bool × Unit) := match o with
 | some t => .inl (t.1, t.2.1, t.2.2, lit [48], false, false, ())
 | none => .inr (0, 0, 0, lit [], false, false, ())
theorem lt_top {A : Int} (h : A < 999999) : decide (A < Int.ofNat 999999) = true := decide_eq_true h
theorem nlt_top {A : Int} (h : ¬ A < 999999) : decide (A < Int.ofNat 999999) = false := decide_eq_false h
theorem up_one {A : Int} (h0 : 0 ≤ A) (h : A ≤ 1000000000000) : IntKind.wrap IntKind.i64 (A + Int.ofNat 1) = A + 1 := wrap64 (by show _ ≤ A + 1; omega) (by show A + 1 ≤ _; omega)
theorem B132_1_0 (A : Int) (hA : 0 ≤ A) : loop B132_1 (Int.ofNat 0, Int.ofNat 0, Int.ofNat 0, Int.ofNat 0, (lit []), false, false, A, Int.ofNat 0, Int.ofNat 0, ()) = some (bumpS (bump0 A)) := by
 unfold bump0
 by_cases h : A < 999999
 ·rw [if_pos h]
  refine loop_end ?_
  rw [B132_1_eq]
  simp only [show decide (Int.ofNat 0 ≥ Int.ofNat 0) = true from rfl, show (Int.ofNat 0 == Int.ofNat 0) = true from rfl, cond_true, cond_false, lt_top h, up_one hA (show A ≤ 1000000000000 by omega)]
  rfl
 ·rw [if_neg h]
  refine loop_step (q := (Int.negSucc 0, Int.ofNat 0, Int.ofNat 0, Int.ofNat 0, (lit []), false, false, Int.ofNat 0, Int.ofNat 0, Int.ofNat 0, ())) ?_ (loop_end ?_)
  ·rw [B132_1_eq]
   simp only [show decide (Int.ofNat 0 ≥ Int.ofNat 0) = true from rfl, show (Int.ofNat 0 == Int.ofNat 0) = true from rfl, cond_true, cond_false, nlt_top h]
   rfl
  ·rw [B132_1_eq]
   rfl
theorem B132_1_1 (A B : Int) (hA : 0 ≤ A) (hB : 0 ≤ B) : loop B132_1 (Int.ofNat 1, Int.ofNat 0, Int.ofNat 0, Int.ofNat 0, (lit []), false, false, A, B, Int.ofNat 0, ()) = some (bumpS (bump1 A B)) := by
 unfold bump1
 by_cases h : B < 999999
 ·rw [if_pos h]
  refine loop_end ?_
  rw [B132_1_eq]
  simp only [show decide (Int.ofNat 1 ≥ Int.ofNat 0) = true from rfl, show (Int.ofNat 1 == Int.ofNat 0) = false from rfl, show (Int.ofNat 1 == Int.ofNat 1) = true from rfl, cond_true, cond_false, lt_top h, up_one hB (show B ≤ 1000000000000 by omega)]
  rfl
 ·rw [if_neg h]
  refine loop_step (q := (Int.ofNat 0, Int.ofNat 0, Int.ofNat 0, Int.ofNat 0, (lit []), false, false, A, Int.ofNat 0, Int.ofNat 0, ())) ?_ (B132_1_0 A hA)
  rw [B132_1_eq]
  simp only [show decide (Int.ofNat 1 ≥ Int.ofNat 0) = true from rfl, show (Int.ofNat 1 == Int.ofNat 0) = false from rfl, show (Int.ofNat 1 == Int.ofNat 1) = true from rfl, cond_true, cond_false, nlt_top h]
  rfl
theorem B132_1_2 (A B C : Int) (hA : 0 ≤ A) (hB : 0 ≤ B) (hC : 0 ≤ C) : loop B132_1 (Int.ofNat 2, Int.ofNat 0, Int.ofNat 0, Int.ofNat 0, (lit []), false, false, A, B, C, ()) = some (bumpS (bump2 A B C)) := by
 unfold bump2
 by_cases h : C < 999999
 ·rw [if_pos h]
  refine loop_end ?_
  rw [B132_1_eq]
  simp only [show decide (Int.ofNat 2 ≥ Int.ofNat 0) = true from rfl, show (Int.ofNat 2 == Int.ofNat 0) = false from rfl, show (Int.ofNat 2 == Int.ofNat 1) = false from rfl, show (Int.ofNat 2 == Int.ofNat 2) = true from rfl, cond_true, cond_false, lt_top h, up_one hC (show C ≤ 1000000000000 by omega)]
  rfl
 ·rw [if_neg h]
  refine loop_step (q := (Int.ofNat 1, Int.ofNat 0, Int.ofNat 0, Int.ofNat 0, (lit []), false, false, A, B, Int.ofNat 0, ())) ?_ (B132_1_1 A B hA hB)
  rw [B132_1_eq]
  simp only [show decide (Int.ofNat 2 ≥ Int.ofNat 0) = true from rfl, show (Int.ofNat 2 == Int.ofNat 0) = false from rfl, show (Int.ofNat 2 == Int.ofNat 1) = false from rfl, show (Int.ofNat 2 == Int.ofNat 2) = true from rfl, cond_true, cond_false, nlt_top h]
  rfl
theorem B132_0_0 (A B C : Int) : loop B132_0 (Int.ofNat 0, Int.ofNat 1, Int.ofNat 0, Int.ofNat 0, Int.ofNat 0, (lit []), false, false, A, B, C, ()) = some (Int.ofNat 0, Int.ofNat 0, Int.ofNat 0, Int.ofNat 0, (lit []), false, false, A, Int.ofNat 0, Int.ofNat 0, ()) := by
 refine loop_step (q := (Int.ofNat 0, Int.ofNat 2, Int.ofNat 0, Int.ofNat 0, Int.ofNat 0, (lit []), false, false, A, Int.ofNat 0, C, ())) (by rw [B132_0_eq]; rfl) ?_
 refine loop_step (q := (Int.ofNat 0, Int.ofNat 3, Int.ofNat 0, Int.ofNat 0, Int.ofNat 0, (lit []), false, false, A, Int.ofNat 0, Int.ofNat 0, ())) (by rw [B132_0_eq]; rfl) ?_
 exact loop_end (by rw [B132_0_eq]; rfl)
theorem B132_0_1 (A B C : Int) : loop B132_0 (Int.ofNat 1, Int.ofNat 2, Int.ofNat 0, Int.ofNat 0, Int.ofNat 0, (lit []), false, false, A, B, C, ()) = some (Int.ofNat 1, Int.ofNat 0, Int.ofNat 0, Int.ofNat 0, (lit []), false, false, A, B, Int.ofNat 0, ()) := by
 refine loop_step (q := (Int.ofNat 1, Int.ofNat 3, Int.ofNat 0, Int.ofNat 0, Int.ofNat 0, (lit []), false, false, A, B, Int.ofNat 0, ())) (by rw [B132_0_eq]; rfl) ?_
 exact loop_end (by rw [B132_0_eq]; rfl)
theorem B132_0_2 (A B C : Int) : loop B132_0 (Int.ofNat 2, Int.ofNat 3, Int.ofNat 0, Int.ofNat 0, Int.ofNat 0, (lit []), false, false, A, B, C, ()) = some (Int.ofNat 2, Int.ofNat 0, Int.ofNat 0, Int.ofNat 0, (lit []), false, false, A, B, C, ()) := by
 exact loop_end (by rw [B132_0_eq]; rfl)
theorem F132_is (k : Nat) (hk : k < 3) (A B C : Int) (p : ByteArray) (hA : 0 ≤ A) (hB : 0 ≤ B) (hC : 0 ≤ C) : F132 (A, B, C, p, Int.ofNat k, ()) = some (bumpR (bumpV k A B C)) := by
 rw [F132_eq]
 match k, hk with
 | 0, _ =>
  have h0 : loop B132_0 (Int.ofNat 0, IntKind.wrap IntKind.i64 (Int.ofNat 0 + Int.ofNat 1), Int.ofNat 0, Int.ofNat 0, Int.ofNat 0, (lit []), false, false, A, B, C, ()) = _ := B132_0_0 A B C
  rw [h0, obs, B132_1_0 A hA, obs]
  show _ = some (bumpR (bump0 A))
  cases bump0 A <;> rfl
 | 1, _ =>
  have h0 : loop B132_0 (Int.ofNat 1, IntKind.wrap IntKind.i64 (Int.ofNat 1 + Int.ofNat 1), Int.ofNat 0, Int.ofNat 0, Int.ofNat 0, (lit []), false, false, A, B, C, ()) = _ := B132_0_1 A B C
  rw [h0, obs, B132_1_1 A B hA hB, obs]
  show _ = some (bumpR (bump1 A B))
  cases bump1 A B <;> rfl
 | 2, _ =>
  have h0 : loop B132_0 (Int.ofNat 2, IntKind.wrap IntKind.i64 (Int.ofNat 2 + Int.ofNat 1), Int.ofNat 0, Int.ofNat 0, Int.ofNat 0, (lit []), false, false, A, B, C, ()) = _ := B132_0_2 A B C
  rw [h0, obs, B132_1_2 A B C hA hB hC, obs]
  show _ = some (bumpR (bump2 A B C))
  cases bump2 A B C <;> rfl
def caretK (A B : Int) : Nat := if 0 < A then 0 else if 0 < B then 1 else 2
theorem F136_is (A B C : Int) (p : ByteArray) (hA : 0 ≤ A) (hB : 0 ≤ B) (hC : 0 ≤ C) : F136 (A, B, C, p, ()) = some (bumpR (bumpV (caretK A B) A B C)) := by
 rw [F136_eq]
 unfold caretK
 by_cases h1 : 0 < A
 ·rw [show decide (A > Int.ofNat 0) = true from decide_eq_true h1, cond_true, F132_is 0 (by omega) A B C p hA hB hC, obs, if_pos h1]
 ·rw [show decide (A > Int.ofNat 0) = false from decide_eq_false h1, cond_false, if_neg h1]
  by_cases h2 : 0 < B
  ·rw [show decide (B > Int.ofNat 0) = true from decide_eq_true h2, cond_true, F132_is 1 (by omega) A B C p hA hB hC, obs, if_pos h2]
  ·rw [show decide (B > Int.ofNat 0) = false from decide_eq_false h2, cond_false, F132_is 2 (by omega) A B C p hA hB hC, obs, if_neg h2]
/-! the document's -/
def to0 (A : Int) : Option Num3 := if A = 999999 then none else some (A + 1, 0, 0)
def to1 (A B : Int) : Option Num3 := if B = 999999 then to0 A else some (A, B + 1, 0)
def to2 (A B C : Int) : Option Num3 := if C = 999999 then to1 A B else some (A, B, C + 1)
theorem cT {α : Type} (a b : α) : cond true a b = a := by
 have h : ∀ c : Bool, c = true → cond c a b = a := by
  intro c hc
  subst hc
  rfl
 exact h _ rfl
theorem cF {α : Type} (a b : α) : cond false a b = b := by
 have h : ∀ c : Bool, c = false → cond c a b = b := by
  intro c hc
  subst hc
  rfl
 exact h _ rfl
theorem sL {α β γ : Type} (f : α → γ) (g : β → γ) (a : α) : Sum.elim f g (.inl a) = f a := by
 have h : ∀ c : α ⊕ β, c = .inl a → Sum.elim f g c = f a := by
  intro c hc
  subst hc
  rfl
 exact h _ rfl
theorem sR {α β γ : Type} (f : α → γ) (g : β → γ) (b : β) : Sum.elim f g (.inr b) = g b := by
 have h : ∀ c : α ⊕ β, c = .inr b → Sum.elim f g c = g b := by
  intro c hc
  subst hc
  rfl
 exact h _ rfl
def toV (k : Nat) (A B C : Int) : Option Num3 := match k with
 | 0 => to0 A
 | 1 => to1 A B
 | _ => to2 A B C
theorem toV_bump (k : Nat) (A B C : Int) (hA : A ≤ 999999) (hB : B ≤ 999999) (hC : C ≤ 999999) : toV k A B C = bumpV k A B C := by
 have e0 : to0 A = bump0 A := by
  unfold to0 bump0
  by_cases h : A = 999999
  ·rw [if_pos h, if_neg (by omega)]
  ·rw [if_neg h, if_pos (by omega)]
 have e1 : to1 A B = bump1 A B := by
  unfold to1 bump1
  by_cases h : B = 999999
  ·rw [if_pos h, if_neg (by omega), e0]
  ·rw [if_neg h, if_pos (by omega)]
 have e2 : to2 A B C = bump2 A B C := by
  unfold to2 bump2
  by_cases h : C = 999999
  ·rw [if_pos h, if_neg (by omega), e1]
  ·rw [if_neg h, if_pos (by omega)]
 match k with
 | 0 => exact e0
 | 1 => exact e1
 | _ + 2 => exact e2
theorem eq_top {A : Int} (h : A = 999999) : (A == Int.ofNat 999999) = true := by rw [h]; rfl
theorem ne_top {A : Int} (h : ¬ A = 999999) : (A == Int.ofNat 999999) = false := by
 rw [← Bool.not_eq_true, beq_iff_eq]; exact h
def wh0 (A : Int) : Int := if A = 999999 then Int.negSucc 0 else Int.ofNat 0
def wh1 (A B : Int) : Int := if B = 999999 then wh0 A else Int.ofNat 1
def wh2 (A B C : Int) : Int := if C = 999999 then wh1 A B else Int.ofNat 2
theorem B145_0_0 (A B C : Int) (p : ByteArray) : loop B145_0 (Int.ofNat 0, Int.ofNat 0, Int.ofNat 0, Int.ofNat 0, (lit []), Int.ofNat 0, Int.ofNat 0, Int.ofNat 0, (lit []), false, false, false, A, B, C, p, Int.ofNat 0, Int.ofNat 0, Int.ofNat 0, (lit []), false, false, false, A, B, C, ()) = some (wh0 A, Int.ofNat 0, Int.ofNat 0, Int.ofNat 0, (lit []), Int.ofNat 0, Int.ofNat 0, Int.ofNat 0, (lit []), false, false, false, A, B, C, p, Int.ofNat 0, Int.ofNat 0, Int.ofNat 0, (lit []), false, false, false, A, B, C, ()) := by
 unfold wh0
 by_cases h : A = 999999
 ·rw [if_pos h]
  refine loop_step (q := (Int.negSucc 0, Int.ofNat 0, Int.ofNat 0, Int.ofNat 0, (lit []), Int.ofNat 0, Int.ofNat 0, Int.ofNat 0, (lit []), false, false, false, A, B, C, p, Int.ofNat 0, Int.ofNat 0, Int.ofNat 0, (lit []), false, false, false, A, B, C, ())) ?_ (loop_end ?_)
  ·rw [B145_0_eq]
   simp only [show decide (Int.ofNat 0 ≥ Int.ofNat 0) = true from rfl, show (Int.ofNat 0 == Int.ofNat 0) = true from rfl, cond_true, cond_false, eq_top h]
   rfl
  ·rw [B145_0_eq]
   rfl
 ·rw [if_neg h]
  refine loop_end ?_
  rw [B145_0_eq]
  simp only [show decide (Int.ofNat 0 ≥ Int.ofNat 0) = true from rfl, show (Int.ofNat 0 == Int.ofNat 0) = true from rfl, cond_true, cond_false, ne_top h]
theorem B145_0_1 (A B C : Int) (p : ByteArray) : loop B145_0 (Int.ofNat 1, Int.ofNat 0, Int.ofNat 0, Int.ofNat 0, (lit []), Int.ofNat 0, Int.ofNat 0, Int.ofNat 0, (lit []), false, false, false, A, B, C, p, Int.ofNat 0, Int.ofNat 0, Int.ofNat 0, (lit []), false, false, false, A, B, C, ()) = some (wh1 A B, Int.ofNat 0, Int.ofNat 0, Int.ofNat 0, (lit []), Int.ofNat 0, Int.ofNat 0, Int.ofNat 0, (lit []), false, false, false, A, B, C, p, Int.ofNat 0, Int.ofNat 0, Int.ofNat 0, (lit []), false, false, false, A, B, C, ()) := by
 unfold wh1
 by_cases h : B = 999999
 ·rw [if_pos h]
  refine loop_step (q := (Int.ofNat 0, Int.ofNat 0, Int.ofNat 0, Int.ofNat 0, (lit []), Int.ofNat 0, Int.ofNat 0, Int.ofNat 0, (lit []), false, false, false, A, B, C, p, Int.ofNat 0, Int.ofNat 0, Int.ofNat 0, (lit []), false, false, false, A, B, C, ())) ?_ (B145_0_0 A B C p)
  rw [B145_0_eq]
  simp only [show decide (Int.ofNat 1 ≥ Int.ofNat 0) = true from rfl, show (Int.ofNat 1 == Int.ofNat 0) = false from rfl, show (Int.ofNat 1 == Int.ofNat 1) = true from rfl, cond_true, cond_false, eq_top h]
  rfl
 ·rw [if_neg h]
  refine loop_end ?_
  rw [B145_0_eq]
  simp only [show decide (Int.ofNat 1 ≥ Int.ofNat 0) = true from rfl, show (Int.ofNat 1 == Int.ofNat 0) = false from rfl, show (Int.ofNat 1 == Int.ofNat 1) = true from rfl, cond_true, cond_false, ne_top h]
theorem B145_0_2 (A B C : Int) (p : ByteArray) : loop B145_0 (Int.ofNat 2, Int.ofNat 0, Int.ofNat 0, Int.ofNat 0, (lit []), Int.ofNat 0, Int.ofNat 0, Int.ofNat 0, (lit []), false, false, false, A, B, C, p, Int.ofNat 0, Int.ofNat 0, Int.ofNat 0, (lit []), false, false, false, A, B, C, ()) = some (wh2 A B C, Int.ofNat 0, Int.ofNat 0, Int.ofNat 0, (lit []), Int.ofNat 0, Int.ofNat 0, Int.ofNat 0, (lit []), false, false, false, A, B, C, p, Int.ofNat 0, Int.ofNat 0, Int.ofNat 0, (lit []), false, false, false, A, B, C, ()) := by
 unfold wh2
 by_cases h : C = 999999
 ·rw [if_pos h]
  refine loop_step (q := (Int.ofNat 1, Int.ofNat 0, Int.ofNat 0, Int.ofNat 0, (lit []), Int.ofNat 0, Int.ofNat 0, Int.ofNat 0, (lit []), false, false, false, A, B, C, p, Int.ofNat 0, Int.ofNat 0, Int.ofNat 0, (lit []), false, false, false, A, B, C, ())) ?_ (B145_0_1 A B C p)
  rw [B145_0_eq]
  simp only [show decide (Int.ofNat 2 ≥ Int.ofNat 0) = true from rfl, show (Int.ofNat 2 == Int.ofNat 0) = false from rfl, show (Int.ofNat 2 == Int.ofNat 1) = false from rfl, show (Int.ofNat 2 == Int.ofNat 2) = true from rfl, cond_true, cond_false, eq_top h]
  rfl
 ·rw [if_neg h]
  refine loop_end ?_
  rw [B145_0_eq]
  simp only [show decide (Int.ofNat 2 ≥ Int.ofNat 0) = true from rfl, show (Int.ofNat 2 == Int.ofNat 0) = false from rfl, show (Int.ofNat 2 == Int.ofNat 1) = false from rfl, show (Int.ofNat 2 == Int.ofNat 2) = true from rfl, cond_true, cond_false, ne_top h]
theorem B145_1_0 (A B C : Int) (p : ByteArray) (h0 : 0 ≤ A) (h : A ≤ 1000000000000) : loop B145_1 (Int.ofNat 0, Int.ofNat 0, Int.ofNat 0, Int.ofNat 0, Int.ofNat 0, (lit []), Int.ofNat 0, Int.ofNat 0, Int.ofNat 0, (lit []), false, false, false, A, B, C, p, Int.ofNat 0, Int.ofNat 0, Int.ofNat 0, (lit []), false, false, false, A, B, C, ()) = some (Int.ofNat 0, Int.ofNat 0, Int.ofNat 0, (lit []), Int.ofNat 0, Int.ofNat 0, Int.ofNat 0, (lit []), false, false, false, A, B, C, p, Int.ofNat 0, Int.ofNat 0, Int.ofNat 0, (lit []), false, false, false, A + 1, Int.ofNat 0, Int.ofNat 0, ()) := by
 refine loop_step (q := (Int.ofNat 0, Int.ofNat 1, Int.ofNat 0, Int.ofNat 0, Int.ofNat 0, (lit []), Int.ofNat 0, Int.ofNat 0, Int.ofNat 0, (lit []), false, false, false, A, B, C, p, Int.ofNat 0, Int.ofNat 0, Int.ofNat 0, (lit []), false, false, false, A + 1, B, C, ())) ?_ ?_
 ·rw [B145_1_eq]
  have f0 : decide (Int.ofNat 0 < Int.ofNat 3) = true := rfl
  have f1 : (Int.ofNat 0 == Int.ofNat 0) = true := rfl
  have f3 : IntKind.wrap IntKind.i64 (Int.ofNat 0 + Int.ofNat 1) = Int.ofNat 1 := rfl
  simp only [f0, f1, up_one h0 h, f3, cT, cF]
 refine loop_step (q := (Int.ofNat 0, Int.ofNat 2, Int.ofNat 0, Int.ofNat 0, Int.ofNat 0, (lit []), Int.ofNat 0, Int.ofNat 0, Int.ofNat 0, (lit []), false, false, false, A, B, C, p, Int.ofNat 0, Int.ofNat 0, Int.ofNat 0, (lit []), false, false, false, A + 1, Int.ofNat 0, C, ())) ?_ ?_
 ·rw [B145_1_eq]
  have f0 : decide (Int.ofNat 1 < Int.ofNat 3) = true := rfl
  have f1 : (Int.ofNat 1 == Int.ofNat 0) = false := rfl
  have f2 : decide (Int.ofNat 1 > Int.ofNat 0) = true := rfl
  have f3 : (Int.ofNat 1 == Int.ofNat 1) = true := rfl
  have f4 : IntKind.wrap IntKind.i64 (Int.ofNat 1 + Int.ofNat 1) = Int.ofNat 2 := rfl
  simp only [f0, f1, f2, f3, f4, cT, cF]
 refine loop_step (q := (Int.ofNat 0, Int.ofNat 3, Int.ofNat 0, Int.ofNat 0, Int.ofNat 0, (lit []), Int.ofNat 0, Int.ofNat 0, Int.ofNat 0, (lit []), false, false, false, A, B, C, p, Int.ofNat 0, Int.ofNat 0, Int.ofNat 0, (lit []), false, false, false, A + 1, Int.ofNat 0, Int.ofNat 0, ())) ?_ ?_
 ·rw [B145_1_eq]
  have f0 : decide (Int.ofNat 2 < Int.ofNat 3) = true := rfl
  have f1 : (Int.ofNat 2 == Int.ofNat 0) = false := rfl
  have f2 : decide (Int.ofNat 2 > Int.ofNat 0) = true := rfl
  have f3 : (Int.ofNat 2 == Int.ofNat 1) = false := rfl
  have f4 : (Int.ofNat 2 == Int.ofNat 2) = true := rfl
  have f5 : IntKind.wrap IntKind.i64 (Int.ofNat 2 + Int.ofNat 1) = Int.ofNat 3 := rfl
  simp only [f0, f1, f2, f3, f4, f5, cT, cF]
 refine loop_end ?_
 rw [B145_1_eq]
 simp only [show decide (Int.ofNat 3 < Int.ofNat 3) = false from rfl, cond_false]
theorem B145_1_1 (A B C : Int) (p : ByteArray) (h0 : 0 ≤ B) (h : B ≤ 1000000000000) : loop B145_1 (Int.ofNat 1, Int.ofNat 0, Int.ofNat 0, Int.ofNat 0, Int.ofNat 0, (lit []), Int.ofNat 0, Int.ofNat 0, Int.ofNat 0, (lit []), false, false, false, A, B, C, p, Int.ofNat 0, Int.ofNat 0, Int.ofNat 0, (lit []), false, false, false, A, B, C, ()) = some (Int.ofNat 0, Int.ofNat 0, Int.ofNat 0, (lit []), Int.ofNat 0, Int.ofNat 0, Int.ofNat 0, (lit []), false, false, false, A, B, C, p, Int.ofNat 0, Int.ofNat 0, Int.ofNat 0, (lit []), false, false, false, A, B + 1, Int.ofNat 0, ()) := by
 refine loop_step (q := (Int.ofNat 1, Int.ofNat 1, Int.ofNat 0, Int.ofNat 0, Int.ofNat 0, (lit []), Int.ofNat 0, Int.ofNat 0, Int.ofNat 0, (lit []), false, false, false, A, B, C, p, Int.ofNat 0, Int.ofNat 0, Int.ofNat 0, (lit []), false, false, false, A, B, C, ())) ?_ ?_
 ·rw [B145_1_eq]
  have f0 : decide (Int.ofNat 0 < Int.ofNat 3) = true := rfl
  have f1 : (Int.ofNat 0 == Int.ofNat 1) = false := rfl
  have f2 : decide (Int.ofNat 0 > Int.ofNat 1) = false := rfl
  have f3 : IntKind.wrap IntKind.i64 (Int.ofNat 0 + Int.ofNat 1) = Int.ofNat 1 := rfl
  simp only [f0, f1, f2, f3, cT, cF]
 refine loop_step (q := (Int.ofNat 1, Int.ofNat 2, Int.ofNat 0, Int.ofNat 0, Int.ofNat 0, (lit []), Int.ofNat 0, Int.ofNat 0, Int.ofNat 0, (lit []), false, false, false, A, B, C, p, Int.ofNat 0, Int.ofNat 0, Int.ofNat 0, (lit []), false, false, false, A, B + 1, C, ())) ?_ ?_
 ·rw [B145_1_eq]
  have f0 : decide (Int.ofNat 1 < Int.ofNat 3) = true := rfl
  have f1 : (Int.ofNat 1 == Int.ofNat 1) = true := rfl
  have f2 : (Int.ofNat 1 == Int.ofNat 0) = false := rfl
  have f4 : IntKind.wrap IntKind.i64 (Int.ofNat 1 + Int.ofNat 1) = Int.ofNat 2 := rfl
  simp only [f0, f1, f2, up_one h0 h, f4, cT, cF]
 refine loop_step (q := (Int.ofNat 1, Int.ofNat 3, Int.ofNat 0, Int.ofNat 0, Int.ofNat 0, (lit []), Int.ofNat 0, Int.ofNat 0, Int.ofNat 0, (lit []), false, false, false, A, B, C, p, Int.ofNat 0, Int.ofNat 0, Int.ofNat 0, (lit []), false, false, false, A, B + 1, Int.ofNat 0, ())) ?_ ?_
 ·rw [B145_1_eq]
  have f0 : decide (Int.ofNat 2 < Int.ofNat 3) = true := rfl
  have f1 : (Int.ofNat 2 == Int.ofNat 1) = false := rfl
  have f2 : decide (Int.ofNat 2 > Int.ofNat 1) = true := rfl
  have f3 : (Int.ofNat 2 == Int.ofNat 0) = false := rfl
  have f4 : (Int.ofNat 2 == Int.ofNat 2) = true := rfl
  have f5 : IntKind.wrap IntKind.i64 (Int.ofNat 2 + Int.ofNat 1) = Int.ofNat 3 := rfl
  simp only [f0, f1, f2, f3, f4, f5, cT, cF]
 refine loop_end ?_
 rw [B145_1_eq]
 simp only [show decide (Int.ofNat 3 < Int.ofNat 3) = false from rfl, cond_false]
theorem B145_1_2 (A B C : Int) (p : ByteArray) (h0 : 0 ≤ C) (h : C ≤ 1000000000000) : loop B145_1 (Int.ofNat 2, Int.ofNat 0, Int.ofNat 0, Int.ofNat 0, Int.ofNat 0, (lit []), Int.ofNat 0, Int.ofNat 0, Int.ofNat 0, (lit []), false, false, false, A, B, C, p, Int.ofNat 0, Int.ofNat 0, Int.ofNat 0, (lit []), false, false, false, A, B, C, ()) = some (Int.ofNat 0, Int.ofNat 0, Int.ofNat 0, (lit []), Int.ofNat 0, Int.ofNat 0, Int.ofNat 0, (lit []), false, false, false, A, B, C, p, Int.ofNat 0, Int.ofNat 0, Int.ofNat 0, (lit []), false, false, false, A, B, C + 1, ()) := by
 refine loop_step (q := (Int.ofNat 2, Int.ofNat 1, Int.ofNat 0, Int.ofNat 0, Int.ofNat 0, (lit []), Int.ofNat 0, Int.ofNat 0, Int.ofNat 0, (lit []), false, false, false, A, B, C, p, Int.ofNat 0, Int.ofNat 0, Int.ofNat 0, (lit []), false, false, false, A, B, C, ())) ?_ ?_
 ·rw [B145_1_eq]
  have f0 : decide (Int.ofNat 0 < Int.ofNat 3) = true := rfl
  have f1 : (Int.ofNat 0 == Int.ofNat 2) = false := rfl
  have f2 : decide (Int.ofNat 0 > Int.ofNat 2) = false := rfl
  have f3 : IntKind.wrap IntKind.i64 (Int.ofNat 0 + Int.ofNat 1) = Int.ofNat 1 := rfl
  simp only [f0, f1, f2, f3, cT, cF]
 refine loop_step (q := (Int.ofNat 2, Int.ofNat 2, Int.ofNat 0, Int.ofNat 0, Int.ofNat 0, (lit []), Int.ofNat 0, Int.ofNat 0, Int.ofNat 0, (lit []), false, false, false, A, B, C, p, Int.ofNat 0, Int.ofNat 0, Int.ofNat 0, (lit []), false, false, false, A, B, C, ())) ?_ ?_
 ·rw [B145_1_eq]
  have f0 : decide (Int.ofNat 1 < Int.ofNat 3) = true := rfl
  have f1 : (Int.ofNat 1 == Int.ofNat 2) = false := rfl
  have f2 : decide (Int.ofNat 1 > Int.ofNat 2) = false := rfl
  have f3 : IntKind.wrap IntKind.i64 (Int.ofNat 1 + Int.ofNat 1) = Int.ofNat 2 := rfl
  simp only [f0, f1, f2, f3, cT, cF]
 refine loop_step (q := (Int.ofNat 2, Int.ofNat 3, Int.ofNat 0, Int.ofNat 0, Int.ofNat 0, (lit []), Int.ofNat 0, Int.ofNat 0, Int.ofNat 0, (lit []), false, false, false, A, B, C, p, Int.ofNat 0, Int.ofNat 0, Int.ofNat 0, (lit []), false, false, false, A, B, C + 1, ())) ?_ ?_
 ·rw [B145_1_eq]
  have f0 : decide (Int.ofNat 2 < Int.ofNat 3) = true := rfl
  have f1 : (Int.ofNat 2 == Int.ofNat 2) = true := rfl
  have f2 : (Int.ofNat 2 == Int.ofNat 0) = false := rfl
  have f3 : (Int.ofNat 2 == Int.ofNat 1) = false := rfl
  have f5 : IntKind.wrap IntKind.i64 (Int.ofNat 2 + Int.ofNat 1) = Int.ofNat 3 := rfl
  simp only [f0, f1, f2, f3, up_one h0 h, f5, cT, cF]
 refine loop_end ?_
 rw [B145_1_eq]
 simp only [show decide (Int.ofNat 3 < Int.ofNat 3) = false from rfl, cond_false]
def toR (o : Option Num3) : Int × Int × Int × ByteArray × Bool × Bool × Bool × Unit := match o with
 | some t => (t.1, t.2.1, t.2.2, lit [48], false, false, false, ())
 | none => (0, 0, 0, lit [], false, false, true, ())
theorem F145_is (k : Nat) (hk : k < 3) (A B C : Int) (p : ByteArray) (hA : 0 ≤ A ∧ A ≤ 1000000000000) (hB : 0 ≤ B ∧ B ≤ 1000000000000) (hC : 0 ≤ C ∧ C ≤ 1000000000000) : F145 (A, B, C, p, Int.ofNat k, ()) = some (A, B, C, p, toR (toV k A B C)) := by
 rw [F145_eq]
 have z0 : (Option.bind (loop B145_1 (Int.ofNat 0, Int.ofNat 0, Int.ofNat 0, Int.ofNat 0, Int.ofNat 0, (lit []), Int.ofNat 0, Int.ofNat 0, Int.ofNat 0, (lit []), false, false, false, A, B, C, p, Int.ofNat 0, Int.ofNat 0, Int.ofNat 0, (lit []), false, false, false, A, B, C, ())) fun r => some (r.2.2.2.2.2.2.2.2.2.2.2.1, r.2.2.2.2.2.2.2.2.2.2.2.2.1, r.2.2.2.2.2.2.2.2.2.2.2.2.2.1, r.2.2.2.2.2.2.2.2.2.2.2.2.2.2.1, r.2.2.2.2.2.2.2.2.2.2.2.2.2.2.2.2.2.2.2.2.2.2.1, r.2.2.2.2.2.2.2.2.2.2.2.2.2.2.2.2.2.2.2.2.2.2.2.1, r.2.2.2.2.2.2.2.2.2.2.2.2.2.2.2.2.2.2.2.2.2.2.2.2.1, (lit [48]), r.2.2.2.2.2.2.2.2.2.2.2.2.2.2.2.2.2.2.2.1, r.2.2.2.2.2.2.2.2.2.2.2.2.2.2.2.2.2.2.2.2.1, r.2.2.2.2.2.2.2.2.2.2.2.2.2.2.2.2.2.2.2.2.2.1, ())) = some (A, B, C, p, toR (some (A + 1, 0, 0))) := by
  rw [B145_1_0 A B C p hA.1 hA.2, obs]
  rfl
 have z1 : (Option.bind (loop B145_1 (Int.ofNat 1, Int.ofNat 0, Int.ofNat 0, Int.ofNat 0, Int.ofNat 0, (lit []), Int.ofNat 0, Int.ofNat 0, Int.ofNat 0, (lit []), false, false, false, A, B, C, p, Int.ofNat 0, Int.ofNat 0, Int.ofNat 0, (lit []), false, false, false, A, B, C, ())) fun r => some (r.2.2.2.2.2.2.2.2.2.2.2.1, r.2.2.2.2.2.2.2.2.2.2.2.2.1, r.2.2.2.2.2.2.2.2.2.2.2.2.2.1, r.2.2.2.2.2.2.2.2.2.2.2.2.2.2.1, r.2.2.2.2.2.2.2.2.2.2.2.2.2.2.2.2.2.2.2.2.2.2.1, r.2.2.2.2.2.2.2.2.2.2.2.2.2.2.2.2.2.2.2.2.2.2.2.1, r.2.2.2.2.2.2.2.2.2.2.2.2.2.2.2.2.2.2.2.2.2.2.2.2.1, (lit [48]), r.2.2.2.2.2.2.2.2.2.2.2.2.2.2.2.2.2.2.2.1, r.2.2.2.2.2.2.2.2.2.2.2.2.2.2.2.2.2.2.2.2.1, r.2.2.2.2.2.2.2.2.2.2.2.2.2.2.2.2.2.2.2.2.2.1, ())) = some (A, B, C, p, toR (some (A, B + 1, 0))) := by
  rw [B145_1_1 A B C p hB.1 hB.2, obs]
  rfl
 have z2 : (Option.bind (loop B145_1 (Int.ofNat 2, Int.ofNat 0, Int.ofNat 0, Int.ofNat 0, Int.ofNat 0, (lit []), Int.ofNat 0, Int.ofNat 0, Int.ofNat 0, (lit []), false, false, false, A, B, C, p, Int.ofNat 0, Int.ofNat 0, Int.ofNat 0, (lit []), false, false, false, A, B, C, ())) fun r => some (r.2.2.2.2.2.2.2.2.2.2.2.1, r.2.2.2.2.2.2.2.2.2.2.2.2.1, r.2.2.2.2.2.2.2.2.2.2.2.2.2.1, r.2.2.2.2.2.2.2.2.2.2.2.2.2.2.1, r.2.2.2.2.2.2.2.2.2.2.2.2.2.2.2.2.2.2.2.2.2.2.1, r.2.2.2.2.2.2.2.2.2.2.2.2.2.2.2.2.2.2.2.2.2.2.2.1, r.2.2.2.2.2.2.2.2.2.2.2.2.2.2.2.2.2.2.2.2.2.2.2.2.1, (lit [48]), r.2.2.2.2.2.2.2.2.2.2.2.2.2.2.2.2.2.2.2.1, r.2.2.2.2.2.2.2.2.2.2.2.2.2.2.2.2.2.2.2.2.1, r.2.2.2.2.2.2.2.2.2.2.2.2.2.2.2.2.2.2.2.2.2.1, ())) = some (A, B, C, p, toR (some (A, B, C + 1))) := by
  rw [B145_1_2 A B C p hC.1 hC.2, obs]
  rfl
 match k, hk with
 | 0, _ =>
  rw [B145_0_0 A B C p, obs]
  show _ = some (A, B, C, p, toR (to0 A))
  unfold wh0 to0
  by_cases h0 : A = 999999
  ·rw [if_pos h0, if_pos h0]
   rfl
  ·rw [if_neg h0, if_neg h0]
   exact z0
 | 1, _ =>
  rw [B145_0_1 A B C p, obs]
  show _ = some (A, B, C, p, toR (to1 A B))
  unfold wh1 to1
  by_cases h1 : B = 999999
  ·rw [if_pos h1, if_pos h1]
   unfold wh0 to0
   by_cases h0 : A = 999999
   ·rw [if_pos h0, if_pos h0]
    rfl
   ·rw [if_neg h0, if_neg h0]
    exact z0
  ·rw [if_neg h1, if_neg h1]
   exact z1
 | 2, _ =>
  rw [B145_0_2 A B C p, obs]
  show _ = some (A, B, C, p, toR (to2 A B C))
  unfold wh2 to2
  by_cases h2 : C = 999999
  ·rw [if_pos h2, if_pos h2]
   unfold wh1 to1
   by_cases h1 : B = 999999
   ·rw [if_pos h1, if_pos h1]
    unfold wh0 to0
    by_cases h0 : A = 999999
    ·rw [if_pos h0, if_pos h0]
     rfl
    ·rw [if_neg h0, if_neg h0]
     exact z0
   ·rw [if_neg h1, if_neg h1]
    exact z1
  ·rw [if_neg h2, if_neg h2]
   exact z2
end Go.Vx.Z
/-! What a mark and a version say. -/
namespace Go.Vx.Z
open Go Go.Vx
set_option linter.unusedVariables false
set_option maxRecDepth 100000
def btw (p q : Pt) : List Span := (Pc.nf [(p, q)]).map spanP
def notS (L : List Span) : List Span := (Pc.nf (Pc.gaps pBeg (L.map kOf) pEnd)).map spanP
def orS (a b : List Span) : List Span := (Pc.nf ((a ++ b).map kOf)).map spanP
def andS (a b : List Span) : List Span := (Pc.nf (Pc.meets (a.map kOf) (b.map kOf))).map spanP
def allS : List Span := [(0, 0, 0, lit [48], 0, 0, 0, lit [], false, false, true, ())]
def vOf (v : Nat × Nat × Nat × List UInt8) : Ver := ((v.1 : Int), (v.2.1 : Int), (v.2.2.1 : Int), lit v.2.2.2, ())
def bumpPt (o : Option Num3) : Pt := match o with
 | some t => ptV (t.1, t.2.1, t.2.2, lit [48], ())
 | none => pEnd
def mkP (p q : Ver) (fb fe tb te : Bool) : Piece := (p.1, p.2.1, p.2.2.1, p.2.2.2.1, fb, fe, q.1, q.2.1, q.2.2.1, q.2.2.2.1, tb, te, ())
theorem F81_is (p q : Ver) (fb fe tb te : Bool) (h : okP (mkP p q fb fe tb te)) : F81 (p.1, p.2.1, p.2.2.1, p.2.2.2.1, fb, fe, q.1, q.2.1, q.2.2.1, q.2.2.2.1, tb, te, ()) = some (btw (ptOf p fb fe) (ptOf q tb te), ()) := by
 rw [F81_eq]
 obtain ⟨r, hr⟩ := F41_is [mkP p q fb fe tb te] (by intro x hx; rw [List.mem_singleton.1 hx]; exact h) (by show 1 ≤ big; decide)
 have h2 : F41 ([(p.1, p.2.1, p.2.2.1, p.2.2.2.1, fb, fe, q.1, q.2.1, q.2.2.1, q.2.2.2.1, tb, te, ())], ()) = _ := hr
 rw [h2, obs]
 rfl
theorem okP_ver {p q : Ver} (fb fe tb : Bool) (hp : okV p = true) (hq : okV q = true) : okP (mkP p q fb fe tb false) := by
 refine ⟨?_, fun h => ?_⟩
 ·show (okV p && okV q) = true
  rw [hp, hq]; rfl
 ·cases h
theorem okP_end {p : Ver} (fb fe : Bool) (hp : okV p = true) : okP (mkP p v0 fb fe false true) := by
 refine ⟨?_, fun _ => ⟨rfl, rfl⟩⟩
 show (okV p && okV v0) = true
 rw [hp]; rfl
def Pair (p q : Pt) : Prop := ∃ x : Piece, okP x ∧ x.fp = p ∧ x.tp = q
theorem pair_ver {p q : Ver} (fb tb : Bool) (hp : okV p = true) (hq : okV q = true) : Pair (ptOf p fb false) (ptOf q tb false) := ⟨mkP p q fb false tb false, okP_ver fb false tb hp hq, rfl, rfl⟩
theorem pair_end {p : Ver} (fb : Bool) (hp : okV p = true) : Pair (ptOf p fb false) pEnd := ⟨mkP p v0 fb false false true, okP_end fb false hp, rfl, rfl⟩
theorem btw_says {p q : Pt} (h : Pair p q) : Nrm (btw p q) ∧ (∀ x, den (btw p q) x ↔ p ≤ x ∧ x < q) ∧ (btw p q).length ≤ 1 := by
 obtain ⟨y, h1, rfl, rfl⟩ := h
 have h2 := nf_says [y] (by intro x hx; rw [List.mem_singleton.1 hx]; exact h1)
 have e : (Pc.nf ([y].map Piece.pp)).map spanP = btw y.fp y.tp := rfl
 rw [e] at h2
 refine ⟨h2.1, fun x => ?_, h2.2.2⟩
 rw [h2.2.1]
 show Pc.mem [(y.fp, y.tp)] x ↔ _
 simp [Pc.mem]
theorem btw_rng {p q : Pt} (h : Pair p q) (hb : pBeg ≤ p) : Rng (btw p q) := by
 obtain ⟨h1, h2, _⟩ := btw_says h
 exact den_rng h1 fun x hx => by
  have := ((h2 x).1 hx).1
  exact Std.IsPreorder.le_trans _ _ _ hb this
theorem F36_one (s : Span) (h : okS s = true) : F36 ([s], ()) = some (btw (kOf s).1 (kOf s).2, ()) := by
 rw [F36_is [s] (by intro x hx; rw [List.mem_singleton.1 hx]; exact h) (by show 1 < big; decide)]
 rfl
def vOk (v : Nat × Nat × Nat × List UInt8) : Prop := v.1 ≤ 999999 ∧ v.2.1 ≤ 999999 ∧ v.2.2.1 ≤ 999999 ∧ v.2.2.2.length ≤ 40
theorem inN_le {n : Nat} (h : inN (n : Int) = true) : n ≤ 999999 := by
 unfold inN at h
 rw [Bool.and_eq_true, decide_eq_true_eq, decide_eq_true_eq] at h
 omega
theorem verP_ok {l : List UInt8} {v : Nat × Nat × Nat × List UInt8} (h : verP l = some v) : vOk v ∧ ∃ r, l = 118 :: r ∧ Form r v := by
 cases l with
 | nil => cases h
 | cons x r =>
  have h' : (if x = 118 then (scanV r).bind (fun v => if rightB v.1 v.2.1 v.2.2.1 v.2.2.2 = true then some v else none) else none) = some v := h
  split at h'
  ·rename_i hx
   rw [Option.bind_eq_some_iff] at h'
   obtain ⟨w, h1, h2⟩ := h'
   split at h2
   ·rename_i hr
    injection h2 with h2
    subst h2
    unfold rightB preOk at hr
    simp only [Bool.and_eq_true] at hr
    refine ⟨⟨inN_le hr.1.1.1, inN_le hr.1.1.2, inN_le hr.1.2, by simpa using hr.2.1⟩, r, by rw [hx], scanV_iff.1 h1⟩
   ·cases h2
  ·cases h'
theorem vOk_V {v : Nat × Nat × Nat × List UInt8} (h : vOk v) : okV (vOf v) = true := decide_eq_true (by show v.2.2.2.length ≤ 1099511627000; have := h.2.2.2; omega)
theorem vOk_beg {v : Nat × Nat × Nat × List UInt8} (b : Bool) : pBeg ≤ ptOf (vOf v) b false := pBeg_le b (least_le (Int.natCast_nonneg _) (Int.natCast_nonneg _) (Int.natCast_nonneg _))
def opS (op : List UInt8) (v : Ver) : Option (List Span) :=
 if op = [] ∨ op = [61] then some (btw (ptV v) (ptOf v true false))
 else if op = [33, 61] then some (notS (btw (ptV v) (ptOf v true false)))
 else if op = [62] then some (btw (ptOf v true false) pEnd)
 else if op = [62, 61] then some (btw (ptV v) pEnd)
 else if op = [60] then some (btw pBeg (ptV v))
 else if op = [60, 61] then some (btw pBeg (ptOf v true false))
 else if op = [94] then some (btw (ptV v) (bumpPt (bumpV (caretK v.1 v.2.1) v.1 v.2.1 v.2.2.1)))
 else if op = [126] then some (btw (ptV v) (bumpPt (bumpV 1 v.1 v.2.1 v.2.2.1)))
 else none
theorem pair_bump {v : Ver} (hv : okV v = true) (o : Option Num3) : Pair (ptV v) (bumpPt o) := by
 cases o with
 | none => exact pair_end false hv
 | some t => exact pair_ver false false hv (q := (t.1, t.2.1, t.2.2, lit [48], ())) (by show decide ((lit [48]).size ≤ 1099511627000) = true; decide)
theorem not_btw {p q : Pt} (h : Pair p q) (hb : pBeg ≤ p) : Nrm (notS (btw p q)) ∧ Rng (notS (btw p q)) ∧ (∀ x, den (notS (btw p q)) x ↔ pBeg ≤ x ∧ x < pEnd ∧ ¬ den (btw p q) x) ∧ (notS (btw p q)).length ≤ 2 := by
 obtain ⟨h1, h2, h3⟩ := btw_says h
 obtain ⟨g1, g2, g3⟩ := gaps_says (btw p q) h1 (btw_rng h hb)
 exact ⟨g1, den_rng g1 fun x hx => ((g2 x).1 hx).1, g2, by show ((Pc.nf _).map spanP).length ≤ 2; omega⟩
theorem opS_ok {op : List UInt8} {v : Ver} {L : List Span} (hv : okV v = true) (hb : ∀ b, pBeg ≤ ptOf v b false) (h : opS op v = some L) : Nrm L ∧ Rng L ∧ L.length ≤ 2 := by
 have h1 : ∀ {p q : Pt}, Pair p q → pBeg ≤ p → Nrm (btw p q) ∧ Rng (btw p q) ∧ (btw p q).length ≤ 2 := fun hp hq => ⟨(btw_says hp).1, btw_rng hp hq, Nat.le_trans (btw_says hp).2.2 (by omega)⟩
 have hl : okV least = true := by decide
 unfold opS at h
 split at h
 ·injection h with h; subst h; exact h1 (pair_ver false true hv hv) (hb false)
 split at h
 ·injection h with h; subst h
  obtain ⟨g1, g2, _, g4⟩ := not_btw (pair_ver false true hv hv) (hb false)
  exact ⟨g1, g2, g4⟩
 split at h
 ·injection h with h; subst h; exact h1 (pair_end true hv) (hb true)
 split at h
 ·injection h with h; subst h; exact h1 (pair_end false hv) (hb false)
 split at h
 ·injection h with h; subst h; exact h1 (pair_ver false false hl hv) (Std.IsPreorder.le_refl _)
 split at h
 ·injection h with h; subst h; exact h1 (pair_ver false true hl hv) (Std.IsPreorder.le_refl _)
 split at h
 ·injection h with h; subst h; exact h1 (pair_bump hv _) (hb false)
 split at h
 ·injection h with h; subst h; exact h1 (pair_bump hv _) (hb false)
 ·cases h
theorem F18_btw {p q : Pt} (h : Pair p q) : F18 (btw p q, ()) = some (notS (btw p q), ()) := by
 obtain ⟨h1, h2, h3⟩ := btw_says h
 exact F18_is (btw p q) (nrm_ok h1) (by show _ < 1099511627776; omega)
abbrev opOf (w : List UInt8) : List UInt8 := w.takeWhile fun x => !(x == 118)
abbrev verOf (w : List UInt8) : List UInt8 := w.dropWhile fun x => !(x == 118)
def markS (w : List UInt8) : Option (List Span) := (verP (verOf w)).bind fun v => opS (opOf w) (vOf v)
def optR (o : Option (List Span)) : List Span × Bool × Unit := match o with
 | some L => (L, true, ())
 | none => ([], false, ())
theorem bumpR_pt (v : Ver) (hv : okV v = true) (o : Option Num3) (n : Int × Int × Int × ByteArray × Bool × Bool × Unit) (hn : n = bumpR o) : F81 (v.1, v.2.1, v.2.2.1, v.2.2.2.1, false, false, n.1, n.2.1, n.2.2.1, n.2.2.2.1, n.2.2.2.2.1, n.2.2.2.2.2.1, ()) = some (btw (ptV v) (bumpPt o), ()) := by
 subst hn
 cases o with
 | none => exact F81_is v v0 false false false true (okP_end false false hv)
 | some t => exact F81_is v (t.1, t.2.1, t.2.2, lit [48], ()) false false false false (okP_ver false false false hv (by show decide ((lit [48]).size ≤ 1099511627000) = true; decide))
theorem beq_l {a b : List UInt8} : (a == b) = decide (a = b) := by rw [Bool.eq_iff_iff, beq_iff_eq, decide_eq_true_eq]
theorem F99_is (s : ByteArray) (hs : s.size ≤ 1099511627000) : F99 (s, ()) = some (optR (markS (bs s))) := by
 have hl := bs_size s
 rw [F99_eq, F133_eq, F161_eq, obs, xIndexByte_eq, obs]
 simp only
 have h118 : (Int.ofNat 118).toNat.toUInt8 = 118 := rfl
 rw [h118, idx_tw]
 have happ := List.takeWhile_append_dropWhile (p := fun x => !(x == (118 : UInt8))) (l := bs s)
 unfold markS
 by_cases hd : verOf (bs s) = []
 ·have hd' : (bs s).dropWhile (fun x => !(x == (118 : UInt8))) = [] := hd
  rw [if_pos hd', hd]
  rfl
 ·have hd' : ¬ (bs s).dropWhile (fun x => !(x == (118 : UInt8))) = [] := hd
  rw [if_neg hd']
  have hk : (opOf (bs s)).length < (bs s).length := by
   have h1 := congrArg List.length happ
   rw [List.length_append] at h1
   have h2 := List.length_pos_iff.2 hd'
   show ((bs s).takeWhile _).length < _
   omega
  have h1 : opOf (bs s) = (bs s).take (opOf (bs s)).length := tw_take _ _
  have h2 : verOf (bs s) = (bs s).drop (opOf (bs s)).length := dw_drop _ _
  rw [show ((bs s).takeWhile fun x => !(x == (118 : UInt8))).length = (opOf (bs s)).length from rfl]
  generalize opOf (bs s) = f at *
  generalize verOf (bs s) = d at *
  have e0 : decide ((f.length : Int) < Int.ofNat 0) = false := by simp
  have e2 : (decide (Int.ofNat 0 ≤ (f.length : Int)) && decide ((f.length : Int) ≤ Int.ofNat s.size)) = true := by
   rw [ge_zero, Bool.true_and, decide_eq_true_eq]; show (f.length : Int) ≤ (s.size : Int); omega
  have e3 : (decide (Int.ofNat 0 ≤ (f.length : Int)) && (decide ((f.length : Int) ≤ Int.ofNat s.size) && decide (Int.ofNat s.size ≤ Int.ofNat s.size))) = true := by
   rw [ge_zero, Bool.true_and, Bool.and_eq_true, decide_eq_true_eq, decide_eq_true_eq]
   exact ⟨by show (f.length : Int) ≤ (s.size : Int); omega, Int.le_refl _⟩
  have i1 : bl (s.extract 0 (Int.toNat (f.length : Int))) = f := by rw [bs_toList, bs_extract, Int.toNat_natCast, List.drop_zero]; exact h1.symm
  have i2 : s.extract (Int.toNat (f.length : Int)) (Int.toNat (Int.ofNat s.size)) = lit d := bs_inj (by
   rw [bs_extract, Int.toNat_natCast, bs_lit]
   show ((bs s).take s.size).drop f.length = _
   rw [hl, List.take_length, h2])
  have hds : (lit d).size ≤ 1099511627000 := by
   show d.length ≤ _
   rw [h2, List.length_drop]; omega
  simp only [e0, e2, e3, cT, cF, i1, i2]
  rw [F80_is _ hds, obs, bs_lit]
  unfold verR
  cases hv : verP d with
  | none => rfl
  | some v =>
   obtain ⟨hok, _⟩ := verP_ok hv
   have hV := vOk_V hok
   simp only [Bool.not_true, cF, Option.bind_some]
   have k1 := F81_is (vOf v) (vOf v) false false true false (okP_ver false false true hV hV)
   have k2 : ∀ b, F81 ((vOf v).1, (vOf v).2.1, (vOf v).2.2.1, (vOf v).2.2.2.1, b, false, v0.1, v0.2.1, v0.2.2.1, v0.2.2.2.1, false, true, ()) = some (btw (ptOf (vOf v) b false) pEnd, ()) := fun b => F81_is (vOf v) v0 b false false true (okP_end b false hV)
   have k3 : ∀ b, F81 (least.1, least.2.1, least.2.2.1, least.2.2.2.1, false, false, (vOf v).1, (vOf v).2.1, (vOf v).2.2.1, (vOf v).2.2.2.1, b, false, ()) = some (btw pBeg (ptOf (vOf v) b false), ()) := fun b => F81_is least (vOf v) false false b false (okP_ver false false b (by decide) hV)
   have n0 : (0 : Int) ≤ (v.1 : Int) := Int.natCast_nonneg _
   have n1 : (0 : Int) ≤ (v.2.1 : Int) := Int.natCast_nonneg _
   have n2 : (0 : Int) ≤ (v.2.2.1 : Int) := Int.natCast_nonneg _
   have k4 := bumpR_pt (vOf v) hV (bumpV (caretK (v.1 : Int) (v.2.1 : Int)) v.1 v.2.1 v.2.2.1) _ rfl
   have k5 := bumpR_pt (vOf v) hV (bumpV 1 (v.1 : Int) v.2.1 v.2.2.1) _ rfl
   have j4 := F136_is v.1 v.2.1 v.2.2.1 (lit v.2.2.2) n0 n1 n2
   have j5 : F132 ((v.1 : Int), (v.2.1 : Int), (v.2.2.1 : Int), lit v.2.2.2, Int.ofNat 1, ()) = _ := F132_is 1 (by omega) v.1 v.2.1 v.2.2.1 (lit v.2.2.2) n0 n1 n2
   have nb := F18_btw (pair_ver false true hV hV)
   unfold opS
   simp only [beq_l]
   by_cases c1 : f = []
   ·subst c1
    simp only [decide_true, cT, true_or, if_true]
    erw [k1]; rfl
   rw [decide_eq_false c1]
   simp only [cF]
   by_cases c2 : f = [61]
   ·subst c2
    simp only [decide_true, cT, or_true, if_true]
    erw [k1]; rfl
   rw [decide_eq_false c2, if_neg (fun h => h.elim c1 c2)]
   simp only [cF]
   by_cases c3 : f = [33, 61]
   ·rw [decide_eq_true c3, if_pos c3]
    simp only [cT]
    erw [k1, obs, nb]; rfl
   rw [decide_eq_false c3, if_neg c3]
   simp only [cF]
   by_cases c4 : f = [62]
   ·rw [decide_eq_true c4, if_pos c4]
    simp only [cT]
    rw [F134_eq, obs]
    erw [k2 true]; rfl
   rw [decide_eq_false c4, if_neg c4]
   simp only [cF]
   by_cases c5 : f = [62, 61]
   ·rw [decide_eq_true c5, if_pos c5]
    simp only [cT]
    rw [F134_eq, obs]
    erw [k2 false]; rfl
   rw [decide_eq_false c5, if_neg c5]
   simp only [cF]
   by_cases c6 : f = [60]
   ·rw [decide_eq_true c6, if_pos c6]
    simp only [cT]
    rw [F135_eq, F43_eq, obs, obs]
    erw [k3 false]; rfl
   rw [decide_eq_false c6, if_neg c6]
   simp only [cF]
   by_cases c7 : f = [60, 61]
   ·rw [decide_eq_true c7, if_pos c7]
    simp only [cT]
    rw [F135_eq, F43_eq, obs, obs]
    erw [k3 true]; rfl
   rw [decide_eq_false c7, if_neg c7]
   simp only [cF]
   by_cases c8 : f = [94]
   ·rw [decide_eq_true c8, if_pos c8]
    simp only [cT]
    rw [j4, obs]
    erw [k4]; rfl
   rw [decide_eq_false c8, if_neg c8]
   simp only [cF]
   by_cases c9 : f = [126]
   ·rw [decide_eq_true c9, if_pos c9]
    simp only [cT]
    rw [j5, obs]
    erw [k5]; rfl
   rw [decide_eq_false c9, if_neg c9]
   rfl
end Go.Vx.Z
/-! The document's words of a mark and a version. -/
namespace Go.Vx.Z
open Go Go.Vx
set_option linter.unusedVariables false
set_option maxRecDepth 100000
def mkS (p q : Ver) (a i o : Bool) : Span := (p.1, p.2.1, p.2.2.1, p.2.2.2.1, q.1, q.2.1, q.2.2.1, q.2.2.2.1, a, i, o, ())
theorem F36_mk (p q : Ver) (a i o : Bool) (hp : okV p = true) (hq : okV q = true) : F36 ([mkS p q a i o], ()) = some (btw (ptOf p a false) (if o then pEnd else ptOf q i false), ()) := by
 rw [F36_one (mkS p q a i o) (by show (okV p && okV q) = true; rw [hp, hq]; rfl)]
 cases o <;> rfl
theorem norm_is {L : List Span} (h : Nrm L) (hl : L.length ≤ 1000000) : F36 (L, ()) = some (L, ()) := norm_self h (by show _ < 1099511627776; omega)
theorem F22_mk (v : Ver) (hv : okV v = true) (hb : ∀ b, pBeg ≤ ptOf v b false) : F22 ([mkS v v false true false], ()) = some (notS (btw (ptV v) (ptOf v true false)), ()) := by
 have hk : kOf (mkS v v false true false) = (ptV v, ptOf v true false) := rfl
 have hlt : ptV v < ptOf v true false := by
  have := lt_pt v v false true
  unfold ptV
  rw [← decide_eq_true_eq (p := ptOf v false false < ptOf v true false), this]
  have h0 : cmpV v v = 0 := lin_cmpV.self v
  rw [h0]
  rfl
 have hn : Nrm [mkS v v false true false] := by
  refine ⟨?_, ?_⟩
  ·show Pc.Nm [kOf (mkS v v false true false)]
   rw [hk]
   exact ⟨by simp, by simpa using hlt⟩
  ·intro s hs
   rw [List.mem_singleton.1 hs]
   exact ⟨by show (okV v && okV v) = true; rw [hv]; rfl, fun h => by cases h⟩
 have hr : Rng [mkS v v false true false] := by
  intro s hs
  rw [List.mem_singleton.1 hs, hk]
  exact hb false
 obtain ⟨R, h1, h2, h3, h4, h5⟩ := rnot_says _ hn hr (by show 1 + 1 < big; decide)
 obtain ⟨g1, g2, g3⟩ := btw_says (pair_ver false true hv hv)
 obtain ⟨k1, k2, k3, k4⟩ := not_btw (pair_ver false true hv hv) (hb false)
 have : R = notS (btw (ptV v) (ptOf v true false)) := nrm_uniq h2 k1 fun x => by
  have e1 : den [mkS v v false true false] x ↔ ptV v ≤ x ∧ x < ptOf v true false := by
   show Pc.mem [kOf (mkS v v false true false)] x ↔ _
   rw [hk]
   simp [Pc.mem]
  have e2 : den (btw (ptV v) (ptOf v true false)) x ↔ ptV v ≤ x ∧ x < ptOf v true false := g2 x
  have e3 : den (notS (btw (ptV v) (ptOf v true false))) x ↔ pBeg ≤ x ∧ x < pEnd ∧ ¬ den (btw (ptV v) (ptOf v true false)) x := k3 x
  rw [h4, e3, e1, e2]
 rw [h1, this]
theorem toS (v : Nat × Nat × Nat × List UInt8) (hv : vOk v) (k : Nat) (hk : k < 3) : ∃ t, F145 ((v.1 : Int), (v.2.1 : Int), (v.2.2.1 : Int), lit v.2.2.2, Int.ofNat k, ()) = some t ∧ F36 ([(t.1, t.2.1, t.2.2.1, t.2.2.2.1, t.2.2.2.2.1, t.2.2.2.2.2.1, t.2.2.2.2.2.2.1, t.2.2.2.2.2.2.2.1, t.2.2.2.2.2.2.2.2.1, t.2.2.2.2.2.2.2.2.2.1, t.2.2.2.2.2.2.2.2.2.2.1, ())], ()) = some (btw (ptV (vOf v)) (bumpPt (bumpV k v.1 v.2.1 v.2.2.1)), ()) := by
 have hv1 := hv.1
 have hv2 := hv.2.1
 have hv3 := hv.2.2.1
 refine ⟨_, F145_is k hk v.1 v.2.1 v.2.2.1 (lit v.2.2.2) (by omega) (by omega) (by omega), ?_⟩
 rw [toV_bump k v.1 v.2.1 v.2.2.1 (by omega) (by omega) (by omega)]
 cases bumpV k (v.1 : Int) v.2.1 v.2.2.1 with
 | none => exact F36_mk (vOf v) v0 false false true (vOk_V hv) (by decide)
 | some t => exact F36_mk (vOf v) (t.1, t.2.1, t.2.2, lit [48], ()) false false false (vOk_V hv) (by show decide ((lit [48]).size ≤ 1099511627000) = true; decide)
theorem F108_is (op : List UInt8) (v : Nat × Nat × Nat × List UInt8) (hv : vOk v) (L : List Span) (h : opS op (vOf v) = some L) :
  ∃ M, F108 (lit op, (v.1 : Int), (v.2.1 : Int), (v.2.2.1 : Int), lit v.2.2.2, ()) = some (M, ()) ∧ F36 (M, ()) = some (L, ()) := by
 have hV := vOk_V hv
 have hB : ∀ b, pBeg ≤ ptOf (vOf v) b false := fun b => vOk_beg b
 have hlen := (opS_ok hV hB h)
 rw [F108_eq, bs_toList, bs_lit]
 simp only [beq_l]
 unfold opS at h
 by_cases c1 : op = []
 ·subst c1
  simp only [true_or, if_true, Option.some.injEq] at h
  subst h
  simp only [decide_true, cT]
  exact ⟨_, rfl, F36_mk (vOf v) (vOf v) false true false hV hV⟩
 by_cases c2 : op = [61]
 ·subst c2
  simp only [or_true, if_true, Option.some.injEq] at h
  subst h
  exact ⟨_, rfl, F36_mk (vOf v) (vOf v) false true false hV hV⟩
 rw [if_neg (fun h => h.elim c1 c2)] at h
 rw [decide_eq_false c1, decide_eq_false c2]
 simp only [cF]
 by_cases c3 : op = [33, 61]
 ·rw [if_pos c3] at h
  injection h with h
  rw [decide_eq_true c3, cT]
  have := F22_mk (vOf v) hV hB
  refine ⟨L, ?_, norm_is hlen.1 (by omega)⟩
  subst h
  erw [this]
  rfl
 rw [if_neg c3] at h
 rw [decide_eq_false c3, cF]
 by_cases c4 : op = [62]
 ·rw [if_pos c4] at h
  injection h with h
  subst h
  rw [decide_eq_true c4, cT]
  exact ⟨_, rfl, F36_mk (vOf v) v0 true false true hV (by decide)⟩
 rw [if_neg c4] at h
 rw [decide_eq_false c4, cF]
 by_cases c5 : op = [62, 61]
 ·rw [if_pos c5] at h
  injection h with h
  subst h
  rw [decide_eq_true c5, cT]
  exact ⟨_, rfl, F36_mk (vOf v) v0 false false true hV (by decide)⟩
 rw [if_neg c5] at h
 rw [decide_eq_false c5, cF]
 by_cases c6 : op = [60]
 ·rw [if_pos c6] at h
  injection h with h
  subst h
  rw [decide_eq_true c6, cT, F27_eq, obs]
  exact ⟨_, rfl, F36_mk least (vOf v) false false false (by decide) hV⟩
 rw [if_neg c6] at h
 rw [decide_eq_false c6, cF]
 by_cases c7 : op = [60, 61]
 ·rw [if_pos c7] at h
  injection h with h
  subst h
  rw [decide_eq_true c7, cT, F27_eq, obs]
  exact ⟨_, rfl, F36_mk least (vOf v) false true false (by decide) hV⟩
 rw [if_neg c7] at h
 rw [decide_eq_false c7, cF]
 by_cases c9 : op = [126]
 ·have c8 : ¬ op = [94] := by rw [c9]; decide
  rw [if_neg c8, if_pos c9] at h
  injection h with h
  subst h
  rw [decide_eq_true c9, cT]
  obtain ⟨t, h1, h2⟩ := toS v hv 1 (by omega)
  have h1' : F145 ((v.1 : Int), (v.2.1 : Int), (v.2.2.1 : Int), lit v.2.2.2, Int.ofNat 1, ()) = some t := h1
  rw [h1', obs]
  exact ⟨_, rfl, h2⟩
 rw [decide_eq_false c9, cF]
 by_cases c8 : op = [94]
 ·rw [if_pos c8] at h
  injection h with h
  subst h
  unfold caretK
  by_cases g1 : (0 : Int) < v.1
  ·obtain ⟨t, h1, h2⟩ := toS v hv 0 (by omega)
   have h1' : F145 ((v.1 : Int), (v.2.1 : Int), (v.2.2.1 : Int), lit v.2.2.2, Int.ofNat 0, ()) = some t := h1
   rw [show decide ((v.1 : Int) > Int.ofNat 0) = true from decide_eq_true g1, cT, h1', obs, if_pos (show (0 : Int) < (vOf v).1 from g1)]
   exact ⟨_, rfl, h2⟩
  ·rw [show decide ((v.1 : Int) > Int.ofNat 0) = false from decide_eq_false g1, cF, if_neg (show ¬ (0 : Int) < (vOf v).1 from g1)]
   by_cases g2 : (0 : Int) < v.2.1
   ·obtain ⟨t, h1, h2⟩ := toS v hv 1 (by omega)
    have h1' : F145 ((v.1 : Int), (v.2.1 : Int), (v.2.2.1 : Int), lit v.2.2.2, Int.ofNat 1, ()) = some t := h1
    rw [show decide ((v.2.1 : Int) > Int.ofNat 0) = true from decide_eq_true g2, cT, h1', obs, if_pos (show (0 : Int) < (vOf v).2.1 from g2)]
    exact ⟨_, rfl, h2⟩
   ·obtain ⟨t, h1, h2⟩ := toS v hv 2 (by omega)
    have h1' : F145 ((v.1 : Int), (v.2.1 : Int), (v.2.2.1 : Int), lit v.2.2.2, Int.ofNat 2, ()) = some t := h1
    rw [show decide ((v.2.1 : Int) > Int.ofNat 0) = false from decide_eq_false g2, cF, h1', obs, if_neg (show ¬ (0 : Int) < (vOf v).2.1 from g2)]
    exact ⟨_, rfl, h2⟩
 ·rw [if_neg c8, if_neg c9] at h
  cases h
abbrev opsL : List ByteArray := [(lit [33, 61]), (lit [62, 61]), (lit [60, 61]), (lit [61]), (lit [62]), (lit [60]), (lit [94]), (lit [126]), (lit [])]
theorem opS_some {op : List UInt8} (v : Ver) (h : op ∈ opsL.map bs) : ∃ L, opS op v = some L := by
 simp only [opsL, List.map_cons, List.map_nil, bs_lit, List.mem_cons, List.not_mem_nil, or_false] at h
 rcases h with rfl | rfl | rfl | rfl | rfl | rfl | rfl | rfl | rfl <;> exact ⟨_, rfl⟩
theorem opS_mem {op : List UInt8} {v : Ver} {L : List Span} (h : opS op v = some L) : op ∈ opsL.map bs := by
 unfold opS at h
 simp only [opsL, List.map_cons, List.map_nil, bs_lit, List.mem_cons, List.not_mem_nil, or_false]
 repeat' split at h
 all_goals first | cases h; done | skip
 ·rename_i c; rcases c with c | c <;> simp [c]
 all_goals (rename_i c; simp [c])
def oneE (w : List UInt8) (y : List UInt8) : (List Span × Bool × Bool × Unit) ⊕ Unit := match verP (w.drop y.length) with
 | none => .inl ([], false, false, ())
 | some v => .inl ((opS y (vOf v)).getD [], y == [], true, ())
theorem pre_of {y w : List UInt8} : (y.isPrefixOf w = true) = (w = y ++ w.drop y.length) := by
 apply propext
 rw [List.isPrefixOf_iff_prefix]
 constructor
 ·rintro ⟨t, rfl⟩; simp
 ·intro h; exact ⟨_, h.symm⟩
theorem op_no {y : List UInt8} (h : y ∈ opsL.map bs) : ∀ c ∈ y, (!(c == (118 : UInt8))) = true := by
 revert y
 decide
theorem mark_first (w : List UInt8) (k : Nat) (hk : opsL.findIdx (fun y => (bs y).isPrefixOf w) = k) (hlt : k < opsL.length) :
  oneE w (bs opsL[k]) = match markS w with
   | some L => .inl (L, opOf w == [], true, ())
   | none => .inl ([], false, false, ()) := by
 have hp : (bs opsL[k]).isPrefixOf w = true := by
  have := List.findIdx_getElem (w := by rw [hk]; exact hlt) (p := fun y => (bs y).isPrefixOf w) (xs := opsL)
  simp only [hk] at this
  exact this
 have hmem : bs opsL[k] ∈ opsL.map bs := List.mem_map.2 ⟨_, List.getElem_mem hlt, rfl⟩
 unfold oneE
 generalize hy : bs opsL[k] = y at *
 rw [pre_of] at hp
 cases hv : verP (w.drop y.length) with
 | some v =>
  obtain ⟨_, r, hr, _⟩ := verP_ok hv
  have h1 : opOf w = y ∧ verOf w = w.drop y.length := by
   have := tw_app (p := fun x => !(x == (118 : UInt8))) y (w.drop y.length) (op_no hmem) (fun c l h => by
    rw [hr] at h
    injection h with h _
    rw [← h]; rfl)
   rw [← hp] at this
   exact this
  unfold markS
  rw [h1.1, h1.2, hv]
  obtain ⟨L, hL⟩ := opS_some (vOf v) hmem
  simp only [Option.bind_some, hL]
  rfl
 | none =>
  cases hm : markS w with
  | none => rfl
  | some L =>
   exfalso
   unfold markS at hm
   rw [Option.bind_eq_some_iff] at hm
   obtain ⟨v, h1, h2⟩ := hm
   obtain ⟨_, r, hr, _⟩ := verP_ok h1
   have hop := opS_mem h2
   have hw : w = opOf w ++ 118 :: r := by
    rw [← hr]
    exact (List.takeWhile_append_dropWhile).symm
   have key : ∀ op ∈ opsL.map bs, ∃ k', opsL.findIdx (fun y => (bs y).isPrefixOf (op ++ 118 :: r)) = k' ∧ (opsL.map bs)[k']? = some op := by
    intro op hop
    simp only [opsL, List.map_cons, List.map_nil, bs_lit, List.mem_cons, List.not_mem_nil, or_false] at hop
    rcases hop with rfl | rfl | rfl | rfl | rfl | rfl | rfl | rfl | rfl <;> exact ⟨_, rfl, rfl⟩
   obtain ⟨k', h3, h4⟩ := key _ hop
   rw [← hw] at h3
   rw [hk] at h3
   subst h3
   rw [List.getElem?_map, List.getElem?_eq_getElem hlt, Option.map_some, hy] at h4
   injection h4 with h4
   rw [h4] at hp hv
   have : w.drop (opOf w).length = 118 :: r := by
    have h5 : w.drop (opOf w).length = verOf w := (dw_drop _ _).symm
    rw [h5, hr]
   rw [this] at hv
   rw [hr, hv] at h1
   cases h1
theorem B86_is (s : ByteArray) (hs : s.size ≤ 1099511627000) : loop B86_0 (s, Int.ofNat 0, opsL, ()) = some (match markS (bs s) with
   | some L => .inl (L, opOf (bs s) == [], true, ())
   | none => .inl ([], false, false, ())) := by
 have hl := bs_size s
 have := loop_at (B := B86_0) opsL (fun i => (s, (i : Int), opsL, ())) (fun y => (bs y).isPrefixOf (bs s)) (fun i => oneE (bs s) (bs ((opsL[i]?).getD (lit [])))) (.inr ()) (fun i h => by
  have hmem : bs opsL[i] ∈ opsL.map bs := List.mem_map.2 ⟨_, List.getElem_mem h, rfl⟩
  have hw : IntKind.wrap IntKind.i64 ((i : Int) + Int.ofNat 1) = ((i + 1 : Nat) : Int) := wrap_next h (by decide)
  have hg : (opsL[i]?).getD (lit []) = opsL[i] := by rw [List.getElem?_eq_getElem h]; rfl
  rw [hg]
  have hyl := bs_size opsL[i]
  rw [B86_0_eq]
  simp only [lt_in h, ge_zero, cT, at_in h, obs, hw]
  generalize opsL[i] = y at *
  by_cases c0 : s.size < y.size
  ·rw [show decide (Int.ofNat s.size < Int.ofNat y.size) = true from decide_eq_true (by show (s.size : Int) < y.size; omega), cT]
   rw [show (bs y).isPrefixOf (bs s) = false by
    rw [← Bool.not_eq_true, List.isPrefixOf_iff_prefix]
    intro hp
    have := hp.length_le
    omega]
   rfl
  ·rw [show decide (Int.ofNat s.size < Int.ofNat y.size) = false from decide_eq_false (by show ¬ (s.size : Int) < y.size; omega), cF]
   have e2 : (decide (Int.ofNat 0 ≤ Int.ofNat y.size) && decide (Int.ofNat y.size ≤ Int.ofNat s.size)) = true := by
    rw [Bool.and_eq_true, decide_eq_true_eq, decide_eq_true_eq]
    exact ⟨Int.natCast_nonneg _, by show (y.size : Int) ≤ (s.size : Int); omega⟩
   have e3 : (decide (Int.ofNat 0 ≤ Int.ofNat y.size) && (decide (Int.ofNat y.size ≤ Int.ofNat s.size) && decide (Int.ofNat s.size ≤ Int.ofNat s.size))) = true := by
    rw [Bool.and_eq_true, Bool.and_eq_true, decide_eq_true_eq, decide_eq_true_eq, decide_eq_true_eq]
    exact ⟨Int.natCast_nonneg _, by show (y.size : Int) ≤ (s.size : Int); omega, Int.le_refl _⟩
   have i1 : bl (s.extract 0 (Int.toNat (Int.ofNat y.size))) = (bs s).take (bs y).length := by
    rw [bs_toList, bs_extract, List.drop_zero, ← hyl]; rfl
   rw [e2, e3, i1, bs_toList y]
   simp only [cT]
   by_cases c1 : (bs s).take (bs y).length = bs y
   ·rw [show ((bs s).take (bs y).length == bs y) = true by simpa using c1]
    rw [show (bs y).isPrefixOf (bs s) = true by rw [List.isPrefixOf_iff_prefix, List.prefix_iff_eq_take]; exact c1.symm]
    have i2 : s.extract (Int.toNat (Int.ofNat y.size)) (Int.toNat (Int.ofNat s.size)) = lit ((bs s).drop (bs y).length) := bs_inj (by
     rw [bs_extract, bs_lit]
     show ((bs s).take s.size).drop y.size = _
     rw [hl, List.take_length, hyl])
    simp only [Bool.not_true, cF, cT]
    rw [i2, F37_is _ (by show ((bs s).drop (bs y).length).length ≤ _; rw [List.length_drop]; omega), obs, bs_lit]
    unfold verR oneE
    cases hv : verP ((bs s).drop (bs y).length) with
    | none => rfl
    | some v =>
     obtain ⟨hok, _⟩ := verP_ok hv
     obtain ⟨L, hL⟩ := opS_some (vOf v) hmem
     obtain ⟨M, h1, h2⟩ := F108_is (bs y) v hok L hL
     rw [lit_bs] at h1
     simp only [Bool.not_true, cF]
     rw [h1, obs, h2, obs, hL]
     rfl
   ·rw [show ((bs s).take (bs y).length == bs y) = false by simpa using c1]
    rw [show (bs y).isPrefixOf (bs s) = false by rw [← Bool.not_eq_true, List.isPrefixOf_iff_prefix, List.prefix_iff_eq_take]; exact fun h => c1 h.symm]
    rfl) (by
  rw [B86_0_eq]
  rfl)
 have hlt : opsL.findIdx (fun y => (bs y).isPrefixOf (bs s)) < opsL.length := List.findIdx_lt_length_of_exists ⟨lit [], by simp [opsL], by rw [bs_lit]; rfl⟩
 rw [if_pos hlt] at this
 have h2 := mark_first (bs s) _ rfl hlt
 rw [List.getElem?_eq_getElem hlt] at this
 have h0 : loop B86_0 (s, Int.ofNat 0, opsL, ()) = _ := this
 rw [h0]
 exact congrArg some h2
end Go.Vx.Z
/-! Wild words. -/
namespace Go.Vx.Z
open Go Go.Vx
set_option linter.unusedVariables false
set_option maxRecDepth 100000
def dotX : List UInt8 := [46, 120]
def wildL (ws : List (List UInt8)) : Option (Nat × Option Nat) := match ws with
 | [a] => (numOf a).bind fun n => if n ≤ 999999 then some (n, none) else none
 | [a, b] => (numOf a).bind fun n => (numOf b).bind fun m => if n ≤ 999999 ∧ m ≤ 999999 then some (n, some m) else none
 | _ => none
theorem wildL_one (a : List UInt8) : wildL [a] = (numOf a).bind fun n => if n ≤ 999999 then some (n, none) else none := rfl
theorem wildL_two (a b : List UInt8) : wildL [a, b] = (numOf a).bind fun n => (numOf b).bind fun m => if n ≤ 999999 ∧ m ≤ 999999 then some (n, some m) else none := rfl
def wildOf (w : List UInt8) : Option (Nat × Option Nat) := if w.head? = some 118 ∧ 2 ≤ w.length ∧ w.drop (w.length - 2) = dotX then wildL (splitB 46 ((w.take (w.length - 2)).drop 1)) else none
def wildP (t : Nat × Option Nat) : List Span := match t.2 with
 | none => btw (ptV ((t.1 : Int), 0, 0, lit [48], ())) (bumpPt (bumpV 0 t.1 0 0))
 | some m => btw (ptV ((t.1 : Int), (m : Int), 0, lit [48], ())) (bumpPt (bumpV 1 t.1 m 0))
def wildS (w : List UInt8) : Option (List Span) := (wildOf w).map wildP
theorem F173_is (s : ByteArray) (hs : s.size ≤ 1099511627776) : F173 (s, (lit dotX), ()) = some (decide (2 ≤ s.size ∧ (bs s).drop (s.size - 2) = dotX), ()) := by
 have hl := bs_size s
 rw [F173_eq]
 have e0 : ByteArray.size (lit dotX) = 2 := rfl
 rw [e0]
 by_cases h : 2 ≤ s.size
 ·have hw : IntKind.wrap IntKind.i64 (Int.ofNat s.size - Int.ofNat 2) = ((s.size - 2 : Nat) : Int) := by
   show IntKind.wrap IntKind.i64 ((s.size : Int) - 2) = _
   rw [wrap64 (by omega) (by omega)]; omega
  rw [hw, show decide (Int.ofNat s.size ≥ Int.ofNat 2) = true from decide_eq_true (by show (2 : Int) ≤ s.size; omega), cT]
  have e3 : (decide (Int.ofNat 0 ≤ ((s.size - 2 : Nat) : Int)) && (decide (((s.size - 2 : Nat) : Int) ≤ Int.ofNat s.size) && decide (Int.ofNat s.size ≤ Int.ofNat s.size))) = true := by
   rw [ge_zero, Bool.true_and, Bool.and_eq_true, decide_eq_true_eq, decide_eq_true_eq]
   exact ⟨by show _ ≤ (s.size : Int); omega, Int.le_refl _⟩
  rw [e3, cT]
  have i2 : bl (s.extract (Int.toNat ((s.size - 2 : Nat) : Int)) (Int.toNat (Int.ofNat s.size))) = (bs s).drop (s.size - 2) := by
   rw [bs_toList, bs_extract, Int.toNat_natCast]
   show ((bs s).take s.size).drop (s.size - 2) = _
   rw [hl, List.take_length]
  rw [i2, bs_toList, bs_lit, beq_l]
  refine congrArg (fun z => some (z, ())) ?_
  rw [decide_eq_decide]
  exact ⟨fun h2 => ⟨h, h2⟩, fun h2 => h2.2⟩
 ·rw [show decide (Int.ofNat s.size ≥ Int.ofNat 2) = false from decide_eq_false (by show ¬ (2 : Int) ≤ s.size; omega), cF, decide_eq_false (fun h2 => h h2.1)]
theorem F131_is (s : ByteArray) (hs : s.size ≤ 1099511627776) : F131 (s, (lit dotX), ()) = some (if 2 ≤ s.size ∧ (bs s).drop (s.size - 2) = dotX then lit ((bs s).take (s.size - 2)) else s, decide (2 ≤ s.size ∧ (bs s).drop (s.size - 2) = dotX), ()) := by
 rw [F131_eq, F160_eq, F173_is s hs, obs]
 by_cases h : 2 ≤ s.size ∧ (bs s).drop (s.size - 2) = dotX
 ·rw [if_pos h, decide_eq_true h]
  have hw : IntKind.wrap IntKind.i64 (Int.ofNat s.size - Int.ofNat (ByteArray.size (lit dotX))) = ((s.size - 2 : Nat) : Int) := by
   show IntKind.wrap IntKind.i64 ((s.size : Int) - 2) = _
   have := h.1
   rw [wrap64 (by omega) (by omega)]; omega
  simp only [Bool.not_true, cF, hw]
  have e3 : (decide (Int.ofNat 0 ≤ ((s.size - 2 : Nat) : Int)) && decide (((s.size - 2 : Nat) : Int) ≤ Int.ofNat s.size)) = true := by
   rw [ge_zero, Bool.true_and, decide_eq_true_eq]
   show _ ≤ (s.size : Int); omega
  rw [e3, cT, obs]
  have i1 : s.extract 0 (Int.toNat ((s.size - 2 : Nat) : Int)) = lit ((bs s).take (s.size - 2)) := bs_inj (by rw [bs_extract, Int.toNat_natCast, List.drop_zero, bs_lit])
  rw [i1]
 ·rw [if_neg h, decide_eq_false h]
  rfl
theorem wild_btw (n m : Nat) (k : Nat) (hk : k < 3) (M K : Int) (hM : M = (m : Int)) (hK : K = Int.ofNat k) : Option.bind (F132 ((n : Int), M, Int.ofNat 0, (lit [48]), K, ())) (fun r => Option.bind (F81 ((n : Int), M, Int.ofNat 0, (lit [48]), false, false, r.1, r.2.1, r.2.2.1, r.2.2.2.1, r.2.2.2.2.1, r.2.2.2.2.2.1, ())) fun r => some (r.1, true, ())) = some (btw (ptV ((n : Int), (m : Int), 0, lit [48], ())) (bumpPt (bumpV k n m 0)), true, ()) := by
 subst hM
 subst hK
 have h1 : F132 ((n : Int), (m : Int), Int.ofNat 0, (lit [48]), Int.ofNat k, ()) = some (bumpR (bumpV k n m 0)) := F132_is k hk n m 0 (lit [48]) (Int.natCast_nonneg _) (Int.natCast_nonneg _) (Int.le_refl _)
 have h2 := bumpR_pt ((n : Int), (m : Int), 0, lit [48], ()) (by show decide ((lit [48]).size ≤ 1099511627000) = true; decide) (bumpV k n m 0) _ rfl
 rw [h1, obs]
 erw [h2]
 rfl
theorem gt_top (n : Nat) : decide (((n : Nat) : Int) > Int.ofNat 999999) = !decide (n ≤ 999999) := by
 rw [← decide_not, decide_eq_decide]
 show (999999 : Int) < (n : Int) ↔ _
 omega
theorem B98_one (x : ByteArray) : loop B98_0 ([x], [x], Int.ofNat 1, Int.ofNat 0, Int.ofNat 0, Int.ofNat 0, ()) = some (match wildL [bs x] with
  | some (n, _) => .inr ([x], (n : Int), Int.ofNat 0, ())
  | none => .inl (false, ())) := by
 have h1 : B98_0 ([x], [x], Int.ofNat 1, Int.ofNat 0, Int.ofNat 0, Int.ofNat 0, ()) = some (match wildL [bs x] with
  | some (n, _) => .inl ([x], [x], Int.ofNat 1, Int.ofNat 1, (n : Int), Int.ofNat 0, ())
  | none => .inr (.inl (false, ()))) := by
  rw [B98_0_eq]
  simp only [show decide (Int.ofNat 0 < Int.ofNat 1) = true from rfl, show (Int.ofNat 0 == Int.ofNat 0) = true from rfl, show decide (Int.ofNat 0 ≤ Int.ofNat 0) = true from rfl, cT, show [x][Int.toNat (Int.ofNat 0)]? = some x from rfl, obs, F103_is]
  rw [wildL_one]
  unfold numR
  cases numOf (bs x) with
  | none => rfl
  | some n =>
   simp only [Bool.not_true, cF, gt_top, Option.bind_some]
   by_cases h : n ≤ 999999
   ·rw [decide_eq_true h, if_pos h]; rfl
   ·rw [decide_eq_false h, if_neg h]; rfl
 cases hw : wildL [bs x] with
 | none => rw [hw] at h1; exact loop_end h1
 | some t =>
  rw [hw] at h1
  exact loop_step h1 (loop_end (by rw [B98_0_eq]; rfl))
theorem B98_two (x y : ByteArray) : loop B98_0 ([x, y], [x, y], Int.ofNat 2, Int.ofNat 0, Int.ofNat 0, Int.ofNat 0, ()) = some (match wildL [bs x, bs y] with
  | some (n, some m) => .inr ([x, y], (n : Int), (m : Int), ())
  | _ => .inl (false, ())) := by
 rw [wildL_two]
 have h1 : B98_0 ([x, y], [x, y], Int.ofNat 2, Int.ofNat 0, Int.ofNat 0, Int.ofNat 0, ()) = some (match numOf (bs x) with
  | some n => if n ≤ 999999 then .inl ([x, y], [x, y], Int.ofNat 2, Int.ofNat 1, (n : Int), Int.ofNat 0, ()) else .inr (.inl (false, ()))
  | none => .inr (.inl (false, ()))) := by
  rw [B98_0_eq]
  simp only [show decide (Int.ofNat 0 < Int.ofNat 2) = true from rfl, show (Int.ofNat 0 == Int.ofNat 0) = true from rfl, show decide (Int.ofNat 0 ≤ Int.ofNat 0) = true from rfl, cT, show [x, y][Int.toNat (Int.ofNat 0)]? = some x from rfl, obs, F103_is]
  unfold numR
  cases numOf (bs x) with
  | none => rfl
  | some n =>
   simp only [Bool.not_true, cF, gt_top]
   by_cases h : n ≤ 999999
   ·rw [decide_eq_true h, if_pos h]; rfl
   ·rw [decide_eq_false h, if_neg h]; rfl
 cases hx : numOf (bs x) with
 | none => rw [hx] at h1; exact loop_end h1
 | some n =>
  rw [hx] at h1
  simp only at h1
  by_cases hn : n ≤ 999999
  ·rw [if_pos hn] at h1
   refine loop_step h1 ?_
   have h2 : B98_0 ([x, y], [x, y], Int.ofNat 2, Int.ofNat 1, (n : Int), Int.ofNat 0, ()) = some (match numOf (bs y) with
    | some m => if m ≤ 999999 then .inl ([x, y], [x, y], Int.ofNat 2, Int.ofNat 2, (n : Int), (m : Int), ()) else .inr (.inl (false, ()))
    | none => .inr (.inl (false, ()))) := by
    rw [B98_0_eq]
    simp only [show decide (Int.ofNat 1 < Int.ofNat 2) = true from rfl, show (Int.ofNat 1 == Int.ofNat 0) = false from rfl, show (Int.ofNat 1 == Int.ofNat 1) = true from rfl, show decide (Int.ofNat 0 ≤ Int.ofNat 1) = true from rfl, cT, cF, show [x, y][Int.toNat (Int.ofNat 1)]? = some y from rfl, obs, F103_is]
    unfold numR
    cases numOf (bs y) with
    | none => rfl
    | some n =>
     simp only [Bool.not_true, cF, gt_top]
     by_cases h : n ≤ 999999
     ·rw [decide_eq_true h, if_pos h]; rfl
     ·rw [decide_eq_false h, if_neg h]; rfl
   cases hy : numOf (bs y) with
   | none => rw [hy] at h2; exact loop_end h2
   | some m =>
    rw [hy] at h2
    simp only at h2
    by_cases hm : m ≤ 999999
    ·rw [if_pos hm] at h2
     simp only [Option.bind_some, if_pos (show n ≤ 999999 ∧ m ≤ 999999 from ⟨hn, hm⟩)]
     exact loop_step h2 (loop_end (by rw [B98_0_eq]; rfl))
    ·rw [if_neg hm] at h2
     simp only [Option.bind_some, if_neg (show ¬ (n ≤ 999999 ∧ m ≤ 999999) from fun h => hm h.2)]
     exact loop_end h2
  ·rw [if_neg hn] at h1
   have : ((some n).bind fun n => (numOf (bs y)).bind fun m => if n ≤ 999999 ∧ m ≤ 999999 then some (n, some m) else none) = (none : Option (Nat × Option Nat)) := by
    rw [Option.bind_some]
    cases numOf (bs y) with
    | none => rfl
    | some m => rw [Option.bind_some, if_neg (fun h => hn h.1)]
   rw [this]
   exact loop_end h1
theorem wildL_long {ws : List (List UInt8)} (h : 2 < ws.length) : wildL ws = none := by
 match ws, h with
 | a :: b :: c :: l, _ => rfl
theorem F98_is (s : ByteArray) (hs : s.size ≤ 1099511627000) : F98 (s, ()) = some (optR (wildS (bs s))) := by
 have hl := bs_size s
 rw [F98_eq]
 have h131 : F131 (s, (lit [46, 120]), ()) = _ := F131_is s (by omega)
 rw [h131, obs]
 simp only
 unfold wildS wildOf
 by_cases hx : 2 ≤ s.size ∧ (bs s).drop (s.size - 2) = dotX
 ·rw [if_pos hx, decide_eq_true hx]
  have hfs : (lit ((bs s).take (s.size - 2))).size ≤ 1099511627000 := by
   show ((bs s).take (s.size - 2)).length ≤ _
   rw [List.length_take]; omega
  rw [F100_is, obs]
  simp only
  have hfd : bs (lit ((bs s).take (s.size - 2))) = (bs s).take (s.size - 2) := bs_lit _
  rw [hfd]
  by_cases hh : ((bs s).take (s.size - 2)).head? = some 118
  ·have hhead : (bs s).head? = some 118 := by
    cases hb : bs s with
    | nil => rw [hb] at hh; simp at hh
    | cons x r =>
     rw [hb] at hh
     cases hn : s.size - 2 with
     | zero => rw [hn] at hh; simp at hh
     | succ k => rw [hn] at hh; simpa using hh
   rw [if_pos hh, decide_eq_true hh, if_pos (show (bs s).head? = some 118 ∧ 2 ≤ (bs s).length ∧ (bs s).drop ((bs s).length - 2) = dotX from ⟨hhead, by omega, by rw [← hl]; exact hx.2⟩)]
   have hbody : bs ((lit ((bs s).take (s.size - 2))).extract 1 (lit ((bs s).take (s.size - 2))).size) = ((bs s).take (s.size - 2)).drop 1 := by
    rw [bs_extract, bs_lit]
    congr 1
    exact List.take_length
   have hbs : ((lit ((bs s).take (s.size - 2))).extract 1 (lit ((bs s).take (s.size - 2))).size).size ≤ 1099511627776 := by
    rw [bs_size, hbody, List.length_drop, List.length_take]; omega
   rw [← hl]
   generalize hu : (lit ((bs s).take (s.size - 2))).extract 1 (lit ((bs s).take (s.size - 2))).size = u at *
   rw [← hbody]
   have h102 : F102 (u, (lit [46]), ()) = some (splitDot u, ()) := F102_dot u hbs
   rw [h102, obs]
   simp only [Bool.not_true, cF]
   unfold splitDot
   rw [List.length_map]
   by_cases h3 : 2 < (splitB 46 (bs u)).length
   ·rw [show decide (Int.ofNat (splitB 46 (bs u)).length > Int.ofNat 2) = true from decide_eq_true (by show (2 : Int) < ((splitB 46 (bs u)).length : Int); omega), cT, wildL_long h3]
    rfl
   ·rw [show decide (Int.ofNat (splitB 46 (bs u)).length > Int.ofNat 2) = false from decide_eq_false (by show ¬ (2 : Int) < ((splitB 46 (bs u)).length : Int); omega), cF]
    have hne := splitB_ne 46 (bs u)
    generalize splitB 46 (bs u) = ws at *
    match ws, hne, h3 with
    | [a], _, _ =>
     have e : List.map lit [a] = [lit a] := rfl
     have hB := B98_one (lit a)
     rw [bs_lit] at hB
     have hB' : loop B98_0 (List.map lit [a], List.map lit [a], Int.ofNat [a].length, Int.ofNat 0, Int.ofNat 0, Int.ofNat 0, ()) = _ := hB
     rw [hB', obs]
     cases hw : wildL [a] with
     | none => rfl
     | some t =>
      obtain ⟨n, o⟩ := t
      have ho : o = none := by
       rw [wildL_one, Option.bind_eq_some_iff] at hw
       obtain ⟨k, _, h2⟩ := hw
       split at h2
       ·injection h2 with h2; injection h2 with _ h2; exact h2.symm
       ·cases h2
      subst ho
      have hw := wild_btw n 0 0 (by omega) (Int.ofNat 0) (IntKind.wrap IntKind.i64 (Int.ofNat 1 - Int.ofNat 1)) rfl rfl
      simp only [sR]
      rw [show List.length [lit a] = 1 from rfl]
      rw [hw]
      rfl
    | [a, b], _, _ =>
     have hB := B98_two (lit a) (lit b)
     rw [bs_lit, bs_lit] at hB
     have hB' : loop B98_0 (List.map lit [a, b], List.map lit [a, b], Int.ofNat [a, b].length, Int.ofNat 0, Int.ofNat 0, Int.ofNat 0, ()) = _ := hB
     rw [hB', obs]
     cases hw : wildL [a, b] with
     | none => rfl
     | some t =>
      obtain ⟨n, o⟩ := t
      cases o with
      | none =>
       exfalso
       rw [wildL_two, Option.bind_eq_some_iff] at hw
       obtain ⟨k, _, h2⟩ := hw
       rw [Option.bind_eq_some_iff] at h2
       obtain ⟨k2, _, h3⟩ := h2
       split at h3
       ·injection h3 with h3; injection h3 with _ h3; cases h3
       ·cases h3
      | some m =>
       have hw := wild_btw n m 1 (by omega) (m : Int) (IntKind.wrap IntKind.i64 (Int.ofNat 2 - Int.ofNat 1)) rfl rfl
       simp only [sR]
       rw [show List.length [lit a, lit b] = 2 from rfl]
       rw [hw]
       rfl
    | [], hne, _ => exact absurd rfl hne
    | a :: b :: c :: l, _, h3 => exact absurd (by simp) h3
  ·rw [if_neg hh, decide_eq_false hh]
   have h102 : F102 (lit ((bs s).take (s.size - 2)), (lit [46]), ()) = some (splitDot (lit ((bs s).take (s.size - 2))), ()) := F102_dot _ (by omega)
   rw [h102, obs]
   simp only [Bool.not_true, Bool.not_false, cF, cT]
   split
   ·rename_i hc
    obtain ⟨g1, g2, g3⟩ := hc
    have h2 : s.size = 2 := by
     cases hb : bs s with
     | nil => rw [hb] at g1; cases g1
     | cons x r =>
      rw [hb] at hh g1
      cases hn : s.size - 2 with
      | zero => omega
      | succ k =>
       rw [hn] at hh
       exact absurd (by simpa using g1) (by simpa using hh)
    exfalso
    rw [← hl, h2] at g3
    rw [show (2 - 2 : Nat) = 0 from rfl, List.drop_zero] at g3
    rw [g3] at g1
    cases g1
   ·rfl
 ·rw [if_neg hx, decide_eq_false hx]
  rw [F100_is, obs]
  simp only
  have hsz : ∀ x : ByteArray, x.size ≤ s.size → F102 (x, (lit [46]), ()) = some (splitDot x, ()) := fun x hx => F102_dot x (by omega)
  have hex : (if (bs s).head? = some 118 then s.extract 1 s.size else s).size ≤ s.size := by
   split
   ·rw [bs_size, bs_extract, List.length_drop, List.length_take]; omega
   ·omega
  rw [hsz _ hex, obs]
  simp only [Bool.not_false, cT]
  rw [if_neg (fun h => hx ⟨by have := h.2.1; omega, by rw [hl]; exact h.2.2⟩)]
  rfl
end Go.Vx.Z
/-! The document's wild words; words. -/
namespace Go.Vx.Z
open Go Go.Vx
set_option linter.unusedVariables false
set_option maxRecDepth 100000
theorem B107_0_is (s : ByteArray) (hs : s.size ≤ 1099511627776) (x2 x3 x4 : Int) (x5 : ByteArray) (x6 x7 x8 : Int) (x9 : ByteArray) (x10 x11 x12 : Bool) :
  loop B107_0 (s, Int.ofNat 0, x2, x3, x4, x5, x6, x7, x8, x9, x10, x11, x12, ()) = some (s, ((((bs s).takeWhile fun x => !(x == 46)).length : Nat) : Int), x2, x3, x4, x5, x6, x7, x8, x9, x10, x11, x12, ()) := by
 have hl := bs_size s
 have := scan (B := B107_0) (bs s) (fun x => !(x == 46)) (fun j => (s, (j : Int), x2, x3, x4, x5, x6, x7, x8, x9, x10, x11, x12, ())) (fun j => (s, (j : Int), x2, x3, x4, x5, x6, x7, x8, x9, x10, x11, x12, ())) (fun i h hp => by
  have hlt : i < s.size := by omega
  rw [B107_0_eq]
  simp only [lt_in hlt, ge_zero, Bool.and_self, cT, bt_eq s i hlt, wrap_next hlt (by omega)]
  generalize (bs s)[i] = c at *
  rw [show (((c.toNat : Nat) : Int) == Int.ofNat 46) = (c == 46) from u8_beq c 46, hp, cT]) (fun i h hp => by
  have hlt : i < s.size := by omega
  rw [B107_0_eq]
  simp only [lt_in hlt, ge_zero, Bool.and_self, cT, bt_eq s i hlt]
  generalize (bs s)[i] = c at *
  rw [show (((c.toNat : Nat) : Int) == Int.ofNat 46) = (c == 46) from u8_beq c 46, hp, cF]) (by
  rw [B107_0_eq]
  simp only [← hl, lt_out, cF]) 0 (Nat.zero_le _)
 rw [List.drop_zero, Nat.zero_add] at this
 exact this
theorem split_first (l : List UInt8) : splitB 46 l = if l.dropWhile (fun x => !(x == 46)) = [] then [l] else l.takeWhile (fun x => !(x == 46)) :: splitB 46 ((l.dropWhile (fun x => !(x == 46))).drop 1) := by
 have happ := List.takeWhile_append_dropWhile (p := fun x => !(x == (46 : UInt8))) (l := l)
 have hno : (46 : UInt8) ∉ l.takeWhile (fun x => !(x == 46)) := fun h => by
  have := tw_mem l _ h
  exact absurd this (by decide)
 cases hd : l.dropWhile (fun x => !(x == (46 : UInt8))) with
 | nil =>
  rw [if_pos rfl]
  rw [hd, List.append_nil] at happ
  rw [happ] at hno
  exact splitB_no 46 l hno
 | cons x r =>
  rw [if_neg (by simp)]
  have hx : x = 46 := by simpa using dw_head l x r hd
  rw [hd, hx] at happ
  conv => lhs; rw [← happ]
  rw [splitB_yes 46 _ _ hno]
  rfl
theorem num_split {l : List UInt8} (h : numOf l ≠ none) : splitB 46 l = [l] := by
 cases hn : numOf l with
 | none => exact absurd hn h
 | some n =>
  refine splitB_no 46 l fun hm => ?_
  have := num_dig hn 46 hm
  exact absurd this (by decide)
def numI (l : List UInt8) : Int := (numR l).1
theorem numI_ok (l : List UInt8) : 0 ≤ numI l ∧ numI l ≤ 1000000000000 := by
 unfold numI numR
 cases hn : numOf l with
 | none => exact ⟨by decide, by decide⟩
 | some n =>
  refine ⟨Int.natCast_nonneg _, ?_⟩
  unfold numOf at hn
  split at hn
  ·cases hn
  ·rename_i h
   injection hn with hn
   have h9 : l.length ≤ 9 := by
    rcases Nat.lt_or_ge 9 l.length with h2 | h2
    ·exact absurd (.inr (.inl h2)) h
    ·exact h2
   have ha : l.all dig1 = true := by
    cases ha : l.all dig1 with
    | true => rfl
    | false => exact absurd (.inr (.inr (.inr ha))) h
   have := numB_lt l ha
   have h2 : 10 ^ l.length ≤ 10 ^ 9 := Nat.pow_le_pow_right (by omega) h9
   show (n : Int) ≤ _
   omega
theorem wildP_none (n : Nat) : wildP (n, none) = btw (ptV ((n : Int), 0, 0, lit [48], ())) (bumpPt (bumpV 0 n 0 0)) := rfl
theorem wildP_some (n m : Nat) : wildP (n, some m) = btw (ptV ((n : Int), (m : Int), 0, lit [48], ())) (bumpPt (bumpV 1 n m 0)) := rfl
theorem wild_F36 (A B : Int) (hA : A ≤ 999999) (hB : B ≤ 999999) (k : Nat) : F36 ([(A, B, 0, lit [48], (toR (toV k A B 0)).1, (toR (toV k A B 0)).2.1, (toR (toV k A B 0)).2.2.1, (toR (toV k A B 0)).2.2.2.1, (toR (toV k A B 0)).2.2.2.2.1, (toR (toV k A B 0)).2.2.2.2.2.1, (toR (toV k A B 0)).2.2.2.2.2.2.1, ())], ()) = some (btw (ptV (A, B, 0, lit [48], ())) (bumpPt (bumpV k A B 0)), ()) := by
 rw [toV_bump k A B 0 hA hB (by omega)]
 have h48 : ∀ a b c : Int, okV (a, b, c, lit [48], ()) = true := fun a b c => by show decide ((lit [48]).size ≤ 1099511627000) = true; decide
 cases bumpV k A B 0 with
 | none => exact F36_mk (A, B, 0, lit [48], ()) v0 false false true (h48 _ _ _) (by decide)
 | some t => exact F36_mk (A, B, 0, lit [48], ()) (t.1, t.2.1, t.2.2, lit [48], ()) false false false (h48 _ _ _) (h48 _ _ _)
theorem F107_is (s : ByteArray) (hs : s.size ≤ 1099511627000) : ∃ t : Int × Int × Int × ByteArray × Int × Int × Int × ByteArray × Bool × Bool × Bool × Bool × Unit, F107 (s, ()) = some t ∧ (wildS (bs s) = none → t.2.2.2.2.2.2.2.2.2.2.2.1 = false) ∧
  (∀ L, wildS (bs s) = some L → t.2.2.2.2.2.2.2.2.2.2.2.1 = true ∧ F36 ([(t.1, t.2.1, t.2.2.1, t.2.2.2.1, t.2.2.2.2.1, t.2.2.2.2.2.1, t.2.2.2.2.2.2.1, t.2.2.2.2.2.2.2.1, t.2.2.2.2.2.2.2.2.1, t.2.2.2.2.2.2.2.2.2.1, t.2.2.2.2.2.2.2.2.2.2.1, ())], ()) = some (L, ())) := by
 have hl := bs_size s
 have hfail : ∀ t : Int × Int × Int × ByteArray × Int × Int × Int × ByteArray × Bool × Bool × Bool × Bool × Unit, t.2.2.2.2.2.2.2.2.2.2.2.1 = false → wildS (bs s) = none → F107 (s, ()) = some t → ∃ t : Int × Int × Int × ByteArray × Int × Int × Int × ByteArray × Bool × Bool × Bool × Bool × Unit, F107 (s, ()) = some t ∧ (wildS (bs s) = none → t.2.2.2.2.2.2.2.2.2.2.2.1 = false) ∧
  (∀ L, wildS (bs s) = some L → t.2.2.2.2.2.2.2.2.2.2.2.1 = true ∧ F36 ([(t.1, t.2.1, t.2.2.1, t.2.2.2.1, t.2.2.2.2.1, t.2.2.2.2.2.1, t.2.2.2.2.2.2.1, t.2.2.2.2.2.2.2.1, t.2.2.2.2.2.2.2.2.1, t.2.2.2.2.2.2.2.2.2.1, t.2.2.2.2.2.2.2.2.2.2.1, ())], ()) = some (L, ())) := fun t h1 h2 h3 => ⟨t, h3, fun _ => h1, fun L hL => by rw [h2] at hL; cases hL⟩
 have hz : (∃ r, r = (Int.ofNat 0, Int.ofNat 0, Int.ofNat 0, (lit []), Int.ofNat 0, Int.ofNat 0, Int.ofNat 0, (lit []), false, false, false, false, ())) := ⟨_, rfl⟩
 by_cases h4 : s.size < 4
 ·refine hfail (Int.ofNat 0, Int.ofNat 0, Int.ofNat 0, (lit []), Int.ofNat 0, Int.ofNat 0, Int.ofNat 0, (lit []), false, false, false, false, ()) rfl ?_ ?_
  ·unfold wildS wildOf
   split
   ·rename_i h
    have hlen : ((bs s).take ((bs s).length - 2)).length ≤ 1 := by rw [List.length_take]; omega
    have : ((bs s).take ((bs s).length - 2)).drop 1 = [] := List.drop_eq_nil_of_le hlen
    rw [this]
    rfl
   ·rfl
  ·rw [F107_eq, show decide (Int.ofNat s.size < Int.ofNat 4) = true from decide_eq_true (by show (s.size : Int) < 4; omega), cT]
 have h118 : (bt s (Int.ofNat 0) == Int.ofNat 118) = ((bs s).head? == some 118) := head_bt s (by omega) 118
 have hbeg : F107 (s, ()) = _ := F107_eq s
 rw [show decide (Int.ofNat s.size < Int.ofNat 4) = false from decide_eq_false (by show ¬ (s.size : Int) < 4; omega), cF, show decide (Int.ofNat 0 < Int.ofNat s.size) = true from decide_eq_true (by show (0 : Int) < s.size; omega), cT, h118] at hbeg
 by_cases hh : (bs s).head? = some 118
 ·rw [show ((bs s).head? == some 118) = true by simpa using hh, Bool.not_true, cF] at hbeg
  have hw : IntKind.wrap IntKind.i64 (Int.ofNat s.size - Int.ofNat 2) = ((s.size - 2 : Nat) : Int) := by
   show IntKind.wrap IntKind.i64 ((s.size : Int) - 2) = _
   rw [wrap64 (by omega) (by omega)]; omega
  have e3 : (decide (Int.ofNat 0 ≤ ((s.size - 2 : Nat) : Int)) && (decide (((s.size - 2 : Nat) : Int) ≤ Int.ofNat s.size) && decide (Int.ofNat s.size ≤ Int.ofNat s.size))) = true := by
   rw [ge_zero, Bool.true_and, Bool.and_eq_true, decide_eq_true_eq, decide_eq_true_eq]
   exact ⟨by show _ ≤ (s.size : Int); omega, Int.le_refl _⟩
  have e4 : (decide (Int.ofNat 1 ≤ ((s.size - 2 : Nat) : Int)) && decide (((s.size - 2 : Nat) : Int) ≤ Int.ofNat s.size)) = true := by
   rw [Bool.and_eq_true, decide_eq_true_eq, decide_eq_true_eq]
   exact ⟨by show (1 : Int) ≤ _; omega, by show _ ≤ (s.size : Int); omega⟩
  have i2 : bl (s.extract (Int.toNat ((s.size - 2 : Nat) : Int)) (Int.toNat (Int.ofNat s.size))) = (bs s).drop (s.size - 2) := by
   rw [bs_toList, bs_extract, Int.toNat_natCast]
   show ((bs s).take s.size).drop (s.size - 2) = _
   rw [hl, List.take_length]
  rw [hw, e3, e4, i2, beq_l] at hbeg
  simp only [cT] at hbeg
  have i3 : bs (s.extract 1 (Int.toNat ((s.size - 2 : Nat) : Int))) = ((bs s).take (s.size - 2)).drop 1 := by rw [bs_extract, Int.toNat_natCast]
  by_cases hx : (bs s).drop (s.size - 2) = dotX
  ·have hx' : (bs s).drop (s.size - 2) = [46, 120] := hx
   rw [decide_eq_true hx', Bool.not_true, cF] at hbeg
   have hwild : wildS (bs s) = (wildL (splitB 46 (((bs s).take (s.size - 2)).drop 1))).map wildP := by
    unfold wildS wildOf
    rw [if_pos ⟨hh, by omega, by rw [← hl]; exact hx⟩, ← hl]
   rw [← i3] at hwild
   have husz : (s.extract 1 (Int.toNat ((s.size - 2 : Nat) : Int))).size ≤ 1099511627000 := by
    rw [bs_size, i3, List.length_drop, List.length_take]; omega
   generalize s.extract 1 (Int.toNat ((s.size - 2 : Nat) : Int)) = u at *
   have hul := bs_size u
   rw [B107_0_is u (by omega), obs] at hbeg
   simp only at hbeg
   rw [split_first] at hwild
   have happ := List.takeWhile_append_dropWhile (p := fun x => !(x == (46 : UInt8))) (l := bs u)
   have htk : (bs u).takeWhile (fun x => !(x == 46)) = (bs u).take ((bs u).takeWhile (fun x => !(x == 46))).length := tw_take _ _
   have hdk : (bs u).dropWhile (fun x => !(x == 46)) = (bs u).drop ((bs u).takeWhile (fun x => !(x == 46))).length := dw_drop _ _
   have htl := tw_len (fun x => !(x == (46 : UInt8))) (bs u)
   generalize hA : (bs u).takeWhile (fun x => !(x == 46)) = a at *
   generalize hD : (bs u).dropWhile (fun x => !(x == 46)) = d at *
   have g1 : (decide (Int.ofNat 0 ≤ ((a.length : Nat) : Int)) && decide (((a.length : Nat) : Int) ≤ Int.ofNat u.size)) = true := by
    rw [ge_zero, Bool.true_and, decide_eq_true_eq]
    show _ ≤ (u.size : Int); omega
   have g2 : bs (u.extract 0 (Int.toNat ((a.length : Nat) : Int))) = a := by
    rw [bs_extract, Int.toNat_natCast, List.drop_zero]; exact htk.symm
   rw [g1, cT, F63_is, g2, obs] at hbeg
   have hab := numI_ok a
   by_cases hd : d = []
   ·have ha : a = bs u := by rw [← happ, hd, List.append_nil]
    rw [if_pos hd] at hwild
    rw [show (((a.length : Nat) : Int) == Int.ofNat u.size) = true by rw [beq_iff_eq]; show _ = (u.size : Int); rw [ha, hul], cT] at hbeg
    have hF := F145_is 0 (by omega) (numI a) 0 0 (lit [48]) hab (by omega) (by omega)
    have hF' : F145 ((numR a).1, Int.ofNat 0, Int.ofNat 0, (lit [48]), Int.ofNat 0, ()) = _ := hF
    rw [hF', obs] at hbeg
    rw [← ha, wildL_one] at hwild
    unfold numR at hbeg
    cases hn : numOf a with
    | none =>
     rw [hn] at hwild hbeg
     exact ⟨_, hbeg, fun _ => rfl, fun L hL => by rw [hwild] at hL; cases hL⟩
    | some n =>
     rw [hn] at hwild hbeg
     have hnI : numI a = (n : Int) := by unfold numI numR; rw [hn]
     rw [hnI] at hbeg
     simp only [cT] at hbeg
     by_cases hle : n ≤ 999999
     ·rw [Option.bind_some, if_pos hle] at hwild
      refine ⟨_, hbeg, (fun h => by rw [hwild] at h; cases h), fun L hL => ?_⟩
      rw [hwild] at hL
      injection hL with hL
      have hF2 := wild_F36 (n : Int) 0 (by omega) (by omega) 0
      rw [← hL, wildP_none]
      exact ⟨decide_eq_true (by show (n : Int) ≤ 999999; omega), hF2⟩
     ·rw [Option.bind_some, if_neg hle] at hwild
      exact ⟨_, hbeg, fun _ => decide_eq_false (by show ¬ (n : Int) ≤ 999999; omega), fun L hL => by rw [hwild] at hL; cases hL⟩
   ·rw [if_neg hd] at hwild
    have hdl := List.length_pos_iff.2 hd
    have hlen : a.length + d.length = u.size := by rw [hul, ← happ, List.length_append]
    rw [show (((a.length : Nat) : Int) == Int.ofNat u.size) = false by rw [← Bool.not_eq_true, beq_iff_eq]; show ¬ _ = (u.size : Int); omega, cF] at hbeg
    have hw1 : IntKind.wrap IntKind.i64 (((a.length : Nat) : Int) + Int.ofNat 1) = ((a.length + 1 : Nat) : Int) := wrap64s a.length (by omega)
    have g3 : (decide (Int.ofNat 0 ≤ ((a.length + 1 : Nat) : Int)) && (decide (((a.length + 1 : Nat) : Int) ≤ Int.ofNat u.size) && decide (Int.ofNat u.size ≤ Int.ofNat u.size))) = true := by
     rw [ge_zero, Bool.true_and, Bool.and_eq_true, decide_eq_true_eq, decide_eq_true_eq]
     exact ⟨by show _ ≤ (u.size : Int); omega, Int.le_refl _⟩
    have g4 : bs (u.extract (Int.toNat ((a.length + 1 : Nat) : Int)) (Int.toNat (Int.ofNat u.size))) = d.drop 1 := by
     rw [bs_extract, Int.toNat_natCast]
     show ((bs u).take u.size).drop (a.length + 1) = _
     rw [hul, List.take_length, hdk, List.drop_drop]
    rw [hw1, g3, cT, F63_is, g4, obs] at hbeg
    generalize d.drop 1 = b at *
    have hbb := numI_ok b
    have hF : F145 ((numR a).1, (numR b).1, Int.ofNat 0, (lit [48]), Int.ofNat 1, ()) = _ := F145_is 1 (by omega) (numI a) (numI b) 0 (lit [48]) hab hbb (by omega)
    rw [hF, obs] at hbeg
    unfold numR at hbeg
    have hno : (numOf a = none ∨ numOf b = none) → wildL (a :: splitB 46 b) = none := by
     intro h
     have hne := splitB_ne 46 b
     cases hb : splitB 46 b with
     | nil => exact absurd hb hne
     | cons w ws =>
      cases ws with
      | cons v ws => exact wildL_long (by simp)
      | nil =>
       have hwb : w = b := by
        have := splitB_jn b
        rw [hb] at this
        exact this
       rw [wildL_two, hwb]
       rcases h with h | h
       ·rw [h]; rfl
       ·rw [h]; cases numOf a <;> rfl
    cases hn : numOf a with
    | none =>
     rw [hno (.inl hn)] at hwild
     rw [hn] at hbeg
     exact ⟨_, hbeg, fun _ => rfl, fun L hL => by rw [hwild] at hL; cases hL⟩
    | some n =>
     rw [hn] at hbeg
     cases hm : numOf b with
     | none =>
      rw [hno (.inr hm)] at hwild
      rw [hm] at hbeg
      exact ⟨_, hbeg, fun _ => rfl, fun L hL => by rw [hwild] at hL; cases hL⟩
     | some m =>
      rw [hm] at hbeg
      simp only [cT] at hbeg
      rw [num_split (l := b) (by rw [hm]; simp)] at hwild
      rw [wildL_two, hn, hm, Option.bind_some, Option.bind_some] at hwild
      have hnI : numI a = (n : Int) := by unfold numI numR; rw [hn]
      have hmI : numI b = (m : Int) := by unfold numI numR; rw [hm]
      rw [hnI, hmI] at hbeg
      have hmax : decide ((bif decide ((m : Int) > (n : Int)) then (m : Int) else (n : Int)) ≤ Int.ofNat 999999) = decide (n ≤ 999999 ∧ m ≤ 999999) := by
       rw [decide_eq_decide]
       by_cases h1 : (m : Int) > (n : Int)
       ·rw [decide_eq_true h1, cT]; show (m : Int) ≤ 999999 ↔ _; omega
       ·rw [decide_eq_false h1, cF]; show (n : Int) ≤ 999999 ↔ _; omega
      by_cases hle : n ≤ 999999 ∧ m ≤ 999999
      ·rw [if_pos hle] at hwild
       refine ⟨_, hbeg, (fun h => by rw [hwild] at h; cases h), fun L hL => ?_⟩
       rw [hwild] at hL
       injection hL with hL
       have hF2 := wild_F36 (n : Int) (m : Int) (by omega) (by omega) 1
       rw [← hL, wildP_some]
       exact ⟨by rw [← decide_eq_true hle]; exact hmax, hF2⟩
      ·rw [if_neg hle] at hwild
       exact ⟨_, hbeg, fun _ => by rw [← decide_eq_false hle]; exact hmax, fun L hL => by rw [hwild] at hL; cases hL⟩
  ·have hx' : ¬ (bs s).drop (s.size - 2) = [46, 120] := hx
   rw [decide_eq_false hx', Bool.not_false, cT] at hbeg
   refine hfail _ rfl ?_ hbeg
   unfold wildS wildOf
   rw [if_neg (fun h => hx (by rw [hl]; exact h.2.2))]
   rfl
 ·rw [show ((bs s).head? == some 118) = false by simpa using hh, Bool.not_false, cT] at hbeg
  refine hfail _ rfl ?_ hbeg
  unfold wildS wildOf
  rw [if_neg (fun h => hh h.1)]
  rfl
end Go.Vx.Z
/-! Words; what words say one after another. -/
namespace Go.Vx.Z
open Go Go.Vx
set_option linter.unusedVariables false
set_option maxRecDepth 100000
def itemS (w : List UInt8) : Option (List Span) := if w = [42] then some allS else match wildS w with
 | some L => some L
 | none => markS w
theorem F77_is : F77 () = some (allS, ()) := by rw [F77_eq, F43_eq, obs]; rfl
theorem F79_is (s : ByteArray) (hs : s.size ≤ 1099511627000) : F79 (s, ()) = some (optR (itemS (bs s))) := by
 rw [F79_eq, bs_toList, beq_l]
 unfold itemS
 by_cases h : bs s = [42]
 ·rw [decide_eq_true h, cT, if_pos h, F77_is, obs]; rfl
 ·rw [decide_eq_false h, cF, if_neg h, F98_is s hs, obs]
  cases hw : wildS (bs s) with
  | some L => rfl
  | none =>
   show (bif false then _ else _) = _
   rw [cF, F99_is s hs, obs]
theorem splitB_snoc (c : UInt8) : ∀ (l w : List UInt8), c ∉ w → splitB c (l ++ c :: w) = splitB c l ++ [w]
 | [], w, h => by
  rw [List.nil_append, splitB_cons, if_pos (by simp), splitB_no c w h]
  rfl
 | x :: l, w, h => by
  have ih := splitB_snoc c l w h
  have hne := splitB_ne c l
  rw [List.cons_append, splitB_cons, splitB_cons, ih]
  split
  ·rfl
  ·cases hs : splitB c l with
   | nil => exact absurd hs hne
   | cons v vs => rfl
theorem wild_ver {w : List UInt8} {L : List Span} (h : wildS w = some L) : verP w = none := by
 cases hv : verP w with
 | none => rfl
 | some v =>
  exfalso
  obtain ⟨_, r, hr, a, b, c, t, hf, k1, k2, k3, k4⟩ := verP_ok hv
  unfold wildS at h
  rw [Option.map_eq_some_iff] at h
  obtain ⟨x, h1, _⟩ := h
  unfold wildOf at h1
  split at h1
  ·rename_i hc
   obtain ⟨g1, g2, g3⟩ := hc
   have hw : w = w.take (w.length - 2) ++ dotX := by rw [← g3, List.take_append_drop]
   have hbody : r = (w.take (w.length - 2)).drop 1 ++ dotX := by
    have h3 : (w.take (w.length - 2)) ++ dotX = 118 :: r := by rw [← hw, hr]
    cases hb : w.take (w.length - 2) with
    | nil =>
     rw [hb] at h3
     injection h3 with h4 _
     exact absurd h4 (by decide)
    | cons x m =>
     rw [hb] at h3
     injection h3 with _ h4
     exact h4.symm
   generalize (w.take (w.length - 2)).drop 1 = body at *
   have hs1 : splitB 46 r = splitB 46 body ++ [[120]] := by
    rw [hbody]
    exact splitB_snoc 46 body [120] (by decide)
   have hno : ∀ {l : List UInt8} {n : Nat}, numOf l = some n → (46 : UInt8) ∉ l := fun h hm => absurd (num_dig h 46 hm) (by decide)
   have hs2 : splitB 46 r = a :: b :: splitB 46 (c ++ t) := by rw [hf, splitB_yes 46 a _ (hno k1), splitB_yes 46 b _ (hno k2)]
   have hlen : (splitB 46 body).length ≤ 2 := by
    rcases Nat.lt_or_ge 2 (splitB 46 body).length with h5 | h5
    ·rw [wildL_long h5] at h1; cases h1
    ·exact h5
   rw [hs2] at hs1
   have hne := splitB_ne 46 (c ++ t)
   have hl := congrArg List.length hs1
   simp only [List.length_cons, List.length_append, List.length_nil] at hl
   generalize hX : splitB 46 (c ++ t) = X at *
   match hB : splitB 46 body, X with
   | _, [] => exact absurd rfl hne
   | [], y :: X => rw [hB] at hl; simp at hl
   | [u], y :: X => rw [hB] at hl; simp at hl
   | [u, v'], [y] =>
    rw [hB] at hs1
    simp only [List.cons_append, List.nil_append, List.cons.injEq, and_true] at hs1
    have hct := splitB_jn (c ++ t)
    rw [hX, hs1.2.2] at hct
    have hct' : [120] = c ++ t := hct
    cases c with
    | nil => unfold numOf at k3; rw [if_pos (.inl rfl)] at k3; cases k3
    | cons d c =>
     injection hct' with h6 _
     have := num_dig k3 d (by simp)
     rw [← h6] at this
     exact absurd this (by decide)
   | [u, v'], y :: z :: X => rw [hB] at hl; simp at hl
   | u :: v' :: z :: m, y :: X => rw [hB] at hlen; simp at hlen
  ·cases h1
theorem op_ver {w : List UInt8} {v : Nat × Nat × Nat × List UInt8} (h : verP w = some v) : opOf w = [] ∧ verOf w = w := by
 obtain ⟨_, r, hr, _⟩ := verP_ok h
 subst hr
 exact ⟨rfl, rfl⟩
theorem item_ver {w : List UInt8} {v : Nat × Nat × Nat × List UInt8} (h : verP w = some v) : itemS w = some (btw (ptV (vOf v)) (ptOf (vOf v) true false)) := by
 unfold itemS
 have h42 : ¬ w = [42] := by
  intro hw
  rw [hw] at h
  have h0 : verP [42] = none := rfl
  rw [h0] at h
  cases h
 rw [if_neg h42]
 cases hw : wildS w with
 | some L => rw [wild_ver hw] at h; cases h
 | none =>
  obtain ⟨h1, h2⟩ := op_ver h
  unfold markS
  simp only
  rw [h1, h2, h, Option.bind_some]
  unfold opS
  rw [if_pos (.inl rfl)]
theorem allS_says : Nrm allS ∧ Rng allS ∧ (∀ x, den allS x ↔ pBeg ≤ x ∧ x < pEnd) := by
 have hk : allS.map kOf = [(pBeg, pEnd)] := rfl
 refine ⟨⟨?_, ?_⟩, ?_, fun x => ?_⟩
 ·rw [hk]
  refine ⟨by simp, fun p hp => ?_⟩
  rw [List.mem_singleton.1 hp]
  exact lt_end least false
 ·intro s hs
  rw [List.mem_singleton.1 hs]
  exact ⟨rfl, fun _ => ⟨rfl, rfl⟩⟩
 ·intro s hs
  rw [List.mem_singleton.1 hs]
  exact Std.IsPreorder.le_refl _
 ·show Pc.mem (allS.map kOf) x ↔ _
  rw [hk]
  simp [Pc.mem]
theorem F22_nil : F22 ([], ()) = some (allS, ()) := by
 obtain ⟨R, h1, h2, h3, h4, h5⟩ := rnot_says [] nrm_nil.1 nrm_nil.2 (by show 0 + 1 < big; decide)
 rw [h1, nrm_uniq h2 allS_says.1 fun x => by
  rw [h4, allS_says.2.2]
  exact ⟨fun h => ⟨h.1, h.2.1⟩, fun h => ⟨h.1, h.2, den_nil x⟩⟩]
theorem F86_is (s : ByteArray) (hs : s.size ≤ 1099511627000) : F86 (s, ()) = some (match itemS (bs s) with
  | some L => (L, (verP (bs s)).isSome, true, ())
  | none => ([], false, false, ())) := by
 rw [F86_eq, bs_toList, beq_l]
 unfold itemS
 by_cases h : bs s = [42]
 ·rw [decide_eq_true h, cT, if_pos h, F22_nil, obs, h]; rfl
 ·rw [decide_eq_false h, cF, if_neg h]
  obtain ⟨t, h1, h2, h3⟩ := F107_is s hs
  rw [h1, obs]
  cases hw : wildS (bs s) with
  | some L =>
   obtain ⟨h4, h5⟩ := h3 L hw
   rw [h4, cT, h5, obs, wild_ver hw]
   rfl
  | none =>
   rw [h2 hw, cF]
   have hB : loop B86_0 (s, Int.ofNat 0, [(lit [33, 61]), (lit [62, 61]), (lit [60, 61]), (lit [61]), (lit [62]), (lit [60]), (lit [94]), (lit [126]), (lit [])], ()) = _ := B86_is s hs
   rw [hB, obs]
   cases hm : markS (bs s) with
   | none => rfl
   | some L =>
    simp only [sL]
    refine congrArg some ?_
    have : (opOf (bs s) == []) = (verP (bs s)).isSome := by
     cases hv : verP (bs s) with
     | some v => rw [(op_ver hv).1]; rfl
     | none =>
      rw [beq_l]
      refine decide_eq_false fun he => ?_
      unfold markS at hm
      have h6 : verOf (bs s) = bs s := by
       have := List.takeWhile_append_dropWhile (p := fun x => !(x == (118 : UInt8))) (l := bs s)
       have he' : (bs s).takeWhile (fun x => !(x == (118 : UInt8))) = [] := he
       rw [he', List.nil_append] at this
       exact this
      rw [h6, hv] at hm
      cases hm
    rw [this]
theorem mark_ok {w : List UInt8} {L : List Span} (h : markS w = some L) : Nrm L ∧ Rng L ∧ L.length ≤ 2 := by
 unfold markS at h
 rw [Option.bind_eq_some_iff] at h
 obtain ⟨v, h1, h2⟩ := h
 obtain ⟨hok, _⟩ := verP_ok h1
 exact opS_ok (vOk_V hok) (fun b => vOk_beg b) h2
theorem wildP_ok (t : Nat × Option Nat) : Nrm (wildP t) ∧ Rng (wildP t) ∧ (wildP t).length ≤ 2 := by
 have key : ∀ (v : Ver) (o : Option Num3), okV v = true → pBeg ≤ ptV v → Nrm (btw (ptV v) (bumpPt o)) ∧ Rng (btw (ptV v) (bumpPt o)) ∧ (btw (ptV v) (bumpPt o)).length ≤ 2 := fun v o hv hb =>
  ⟨(btw_says (pair_bump hv o)).1, btw_rng (pair_bump hv o) hb, Nat.le_trans (btw_says (pair_bump hv o)).2.2 (by omega)⟩
 unfold wildP
 cases t.2 with
 | none => exact key _ _ (by show decide ((lit [48]).size ≤ 1099511627000) = true; decide) (pBeg_le false (least_le (Int.natCast_nonneg _) (Int.le_refl _) (Int.le_refl _)))
 | some m => exact key _ _ (by show decide ((lit [48]).size ≤ 1099511627000) = true; decide) (pBeg_le false (least_le (Int.natCast_nonneg _) (Int.natCast_nonneg _) (Int.le_refl _)))
theorem item_ok {w : List UInt8} {L : List Span} (h : itemS w = some L) : Nrm L ∧ Rng L ∧ L.length ≤ 2 := by
 unfold itemS at h
 split at h
 ·injection h with h
  subst h
  exact ⟨allS_says.1, allS_says.2.1, by decide⟩
 ·cases hw : wildS w with
  | none => rw [hw] at h; exact mark_ok h
  | some M =>
   rw [hw] at h
   injection h with h
   subst h
   unfold wildS at hw
   rw [Option.map_eq_some_iff] at hw
   obtain ⟨t, _, rfl⟩ := hw
   exact wildP_ok t
theorem btw_ver {v y : Nat × Nat × Nat × List UInt8} (hv : vOk v) (hy : vOk y) : Nrm (btw (ptV (vOf v)) (ptOf (vOf y) true false)) ∧ Rng (btw (ptV (vOf v)) (ptOf (vOf y) true false)) ∧ (btw (ptV (vOf v)) (ptOf (vOf y) true false)).length ≤ 2 :=
 ⟨(btw_says (pair_ver false true (vOk_V hv) (vOk_V hy))).1, btw_rng (pair_ver false true (vOk_V hv) (vOk_V hy)) (vOk_beg false), Nat.le_trans (btw_says (pair_ver false true (vOk_V hv) (vOk_V hy))).2.2 (by omega)⟩
/-! Lengths: what is normed has no more pieces than there are beginnings. -/
open Classical in
theorem nodup_len {α : Type} : ∀ (l m : List α), l.Nodup → (∀ x ∈ l, x ∈ m) → l.length ≤ m.length
 | [], m, _, _ => Nat.zero_le _
 | x :: l, m, hn, hs => by
  rw [List.nodup_cons] at hn
  have hx := hs x (by simp)
  have := nodup_len l (m.erase x) hn.2 fun y hy => by
   have hne : y ≠ x := fun h => hn.1 (h ▸ hy)
   exact (List.mem_erase_of_ne hne).2 (hs y (by simp [hy]))
  rw [List.length_erase_of_mem hx] at this
  have h0 : 0 < m.length := List.length_pos_of_mem hx
  simp only [List.length_cons]
  omega
theorem nm_froms {l : List (Pt × Pt)} (h : Pc.Nm l) : (l.map Prod.fst).Nodup := by
 rw [List.Nodup, List.pairwise_map]
 have h1 := h.1
 have h2 := h.2
 clear h
 induction l with
 | nil => exact .nil
 | cons p l ih =>
  rw [List.pairwise_cons] at h1 ⊢
  refine ⟨fun q hq he => ?_, ih h1.2 fun q hq => h2 q (by simp [hq])⟩
  have a1 := h1.1 q hq
  have a2 := h2 p (by simp)
  rw [← he] at a1
  exact absurd (show p.1 < p.1 by grind) (by grind)
theorem and_len (a b : List (Pt × Pt)) : (Pc.nf (Pc.meets a b)).length ≤ a.length + b.length := by
 have h := nodup_len ((Pc.nf (Pc.meets a b)).map Prod.fst) (a.map Prod.fst ++ b.map Prod.fst) (nm_froms (Pc.nf_ok _).1) (by
  intro x hx
  obtain ⟨p, hp, rfl⟩ := List.mem_map.1 hx
  have := nf_ends (fun x => x ∈ a.map Prod.fst ++ b.map Prod.fst) (fun _ => True) (Pc.meets a b) (by
   intro q hq
   refine ⟨?_, trivial⟩
   unfold Pc.meets at hq
   obtain ⟨u, hu, hq⟩ := List.mem_flatMap.1 hq
   obtain ⟨v, hv, rfl⟩ := List.mem_map.1 hq
   unfold Pc.meet
   simp only [List.mem_append, List.mem_map]
   split
   ·exact .inr ⟨v, hv, rfl⟩
   ·exact .inl ⟨u, hu, rfl⟩) p hp
  exact this.1)
 simpa using h
theorem andS_says {a b : List Span} (ha : Nrm a) (hb : Nrm b) (hra : Rng a) (hl : a.length ≤ 1000000) (hl2 : b.length ≤ 1000000) : F16 (a, b, ()) = some (andS a b, ()) ∧ Nrm (andS a b) ∧ Rng (andS a b) ∧ (∀ x, den (andS a b) x ↔ den a x ∧ den b x) ∧ (andS a b).length ≤ a.length + b.length := by
 obtain ⟨R, h1, h2, h3, h4⟩ := and_says a b ha hb hl hl2
 have h5 := F16_is a b (nrm_ok ha) (nrm_ok hb) hl hl2
 rw [h1] at h5
 have h6 : R = andS a b := (Prod.mk.inj (Option.some.inj h5)).1
 subst h6
 refine ⟨h1, h2, den_rng h2 fun x hx => (rng_den hra ((h3 x).1 hx).1).1, h3, ?_⟩
 unfold andS
 rw [List.length_map]
 have := and_len (a.map kOf) (b.map kOf)
 simpa using this
theorem orS_says {a b : List Span} (ha : Nrm a) (hb : Nrm b) (hra : Rng a) (hrb : Rng b) (hl : a.length + b.length ≤ 1000000) : F17 ([a, b], ()) = some (orS a b, ()) ∧ Nrm (orS a b) ∧ Rng (orS a b) ∧ (∀ x, den (orS a b) x ↔ den a x ∨ den b x) ∧ (orS a b).length ≤ a.length + b.length := by
 obtain ⟨R, h1, h2, h3, h4⟩ := or2_says a b ha hb hl
 have e : [a, b].flatten = a ++ b := by simp
 have h5 := F17_is [a, b] (by
  rw [e]
  intro s hs
  rcases List.mem_append.1 hs with h | h
  ·exact nrm_ok ha s h
  ·exact nrm_ok hb s h) (by rw [e, List.length_append]; simp only [big]; omega) (by show 2 ≤ big; decide)
 rw [h1, e] at h5
 have h6 : R = orS a b := (Prod.mk.inj (Option.some.inj h5)).1
 subst h6
 exact ⟨h1, h2, or_rng hra hrb h2 h3, h3, h4⟩
theorem randS {a b : List Span} (ha : Nrm a) (hb : Nrm b) (hra : Rng a) (hrb : Rng b) (hl : a.length ≤ 1000000) (hl2 : b.length ≤ 1000000) : F20 (a, b, ()) = some (andS a b, ()) := by
 obtain ⟨R, h1, h2, h3⟩ := rand_says a b ha hb hra hrb (by simp only [big]; omega)
 obtain ⟨_, g1, _, g3, _⟩ := andS_says ha hb hra hl hl2
 rw [h1, nrm_uniq h2 g1 fun x => (h3 x).trans (g3 x).symm]
theorem rorS {a b : List Span} (ha : Nrm a) (hb : Nrm b) (hra : Rng a) (hrb : Rng b) (hl : a.length + b.length ≤ 1000000) : F21 (a, b, ()) = some (orS a b, ()) := by
 obtain ⟨R, h1, h2, h3, _⟩ := ror_says a b (nrm_ok ha) (nrm_ok hb) (by simp only [big]; omega)
 obtain ⟨_, g1, _, g3, _⟩ := orS_says ha hb hra hrb hl
 rw [h1, nrm_uniq h2 g1 fun x => (h3 x).trans (g3 x).symm]
end Go.Vx.Z
/-! A text as words; the program's reader. -/
namespace Go.Vx.Z
open Go Go.Vx
set_option linter.unusedVariables false
set_option maxRecDepth 100000
inductive Tok where
 | w (u : List UInt8) (p : Nat)
 | bar (p : Nat)
 | bad (p : Nat)
 | fin
abbrev PV := Nat × Nat × Nat × List UInt8
inductive St where
 | start
 | mid
 | plain (v : PV) (L : List Span)
 | dash (v : PV)
def goP : List Tok → List Span → List Span → St → List Span ⊕ Nat
 | [], _, _, _ => .inr 0
 | .w u p :: ts, out, acc, .dash v => (match verP u with
   | none => .inr p
   | some y => goP ts out (andS acc (btw (ptV (vOf v)) (ptOf (vOf y) true false))) .mid)
 | .w u p :: ts, out, acc, .plain v L => if u = [45] then goP ts out acc (.dash v) else (match itemS u with
   | none => .inr p
   | some M => (match verP u with
    | some y => goP ts out (andS acc L) (.plain y M)
    | none => goP ts out (andS (andS acc L) M) .mid))
 | .w u p :: ts, out, acc, .start => (match itemS u with
   | none => .inr p
   | some M => (match verP u with
    | some y => goP ts out acc (.plain y M)
    | none => goP ts out (andS acc M) .mid))
 | .w u p :: ts, out, acc, .mid => (match itemS u with
   | none => .inr p
   | some M => (match verP u with
    | some y => goP ts out acc (.plain y M)
    | none => goP ts out (andS acc M) .mid))
 | .bar p :: ts, out, acc, .start => .inr p
 | .bar p :: ts, out, acc, .dash _ => .inr p
 | .bar p :: ts, out, acc, .plain _ L => goP ts (orS out (andS acc L)) allS .start
 | .bar p :: ts, out, acc, .mid => goP ts (orS out acc) allS .start
 | .bad p :: _, _, _, .start => .inr p
 | .bad p :: _, _, _, .dash _ => .inr p
 | .bad p :: _, _, _, .plain _ _ => .inr (p - 1)
 | .bad p :: _, _, _, .mid => .inr (p - 1)
 | .fin :: _, _, _, .start => .inr 0
 | .fin :: _, _, _, .dash _ => .inr 0
 | .fin :: _, out, acc, .plain _ L => .inl (orS out (andS acc L))
 | .fin :: _, out, acc, .mid => .inl (orS out acc)
abbrev blk1 (c : UInt8) : Bool := c == 32
def tokc (c : UInt8) : Bool := !(c == 32) && !(c == 124)
def lexN : Nat → List UInt8 → List Tok
 | 0, _ => [.fin]
 | n + 1, l => match l.dropWhile blk1 with
  | [] => [.fin]
  | c :: r => if c = 124 then (match r with
    | [] => [.bad 1]
    | d :: r' => if d = 124 then .bar (r'.length + 2) :: lexN n r' else [.bad (r'.length + 2)])
   else .w ((c :: r).takeWhile tokc) (r.length + 1) :: lexN n ((c :: r).dropWhile tokc)
def lex (l : List UInt8) : List Tok := lexN (l.length + 1) l
theorem dw_len {α : Type} (p : α → Bool) (l : List α) : (l.dropWhile p).length ≤ l.length := by
 have h1 := List.takeWhile_append_dropWhile (p := p) (l := l)
 have h2 := congrArg List.length h1
 rw [List.length_append] at h2
 omega
theorem lex_fuel : ∀ (n m : Nat) (l : List UInt8), l.length < n → l.length < m → lexN n l = lexN m l
 | 0, _, l, h, _ => absurd h (by omega)
 | _, 0, l, _, h => absurd h (by omega)
 | n + 1, m + 1, l, h1, h2 => by
  have hd := dw_len blk1 l
  unfold lexN
  cases hl : l.dropWhile blk1 with
  | nil => rfl
  | cons c r =>
   rw [hl] at hd
   simp only [List.length_cons] at hd
   simp only
   split
   ·cases r with
    | nil => rfl
    | cons d r' =>
     simp only
     split
     ·simp only [List.length_cons] at hd
      rw [lex_fuel n m r' (by omega) (by omega)]
     ·rfl
   ·rename_i hc
    have h3 : ((c :: r).dropWhile tokc).length ≤ r.length := by
     have h4 : c ≠ 32 := fun h => by
      have := dw_head l c r hl
      rw [h] at this
      exact absurd this (by decide)
     have h5 : tokc c = true := by
      unfold tokc
      rw [Bool.and_eq_true, Bool.not_eq_true', Bool.not_eq_true', ← Bool.not_eq_true, ← Bool.not_eq_true, beq_iff_eq, beq_iff_eq]
      exact ⟨h4, hc⟩
     rw [List.dropWhile_cons, if_pos h5]
     exact dw_len tokc r
    rw [lex_fuel n m _ (by omega) (by omega)]
abbrev nx (l : List UInt8) : List UInt8 := l.dropWhile blk1
theorem nx_head {l : List UInt8} {c : UInt8} {r : List UInt8} (h : nx l = c :: r) : c ≠ 32 := fun hc => by
 have := dw_head l c r h
 rw [hc] at this
 exact absurd this (by decide)
theorem lex_nil {l : List UInt8} (h : nx l = []) : lex l = [.fin] := by
 unfold lex lexN
 rw [show l.dropWhile blk1 = [] from h]
theorem lex_bad1 {l : List UInt8} (h : nx l = [124]) : lex l = [.bad 1] := by
 unfold lex lexN
 rw [show l.dropWhile blk1 = [124] from h]
 rfl
theorem lex_bad {l : List UInt8} {d : UInt8} {r : List UInt8} (h : nx l = 124 :: d :: r) (hd : d ≠ 124) : lex l = [.bad (r.length + 2)] := by
 unfold lex lexN
 rw [show l.dropWhile blk1 = 124 :: d :: r from h]
 show (if (124 : UInt8) = 124 then (if d = 124 then _ else _) else _) = _
 rw [if_pos rfl, if_neg hd]
theorem lex_bar {l r : List UInt8} (h : nx l = 124 :: 124 :: r) : lex l = .bar (r.length + 2) :: lex r := by
 have hd := dw_len blk1 l
 rw [show l.dropWhile blk1 = 124 :: 124 :: r from h] at hd
 simp only [List.length_cons] at hd
 unfold lex
 conv => lhs; unfold lexN
 rw [show l.dropWhile blk1 = 124 :: 124 :: r from h]
 show (if (124 : UInt8) = 124 then (if (124 : UInt8) = 124 then _ else _) else _) = _
 rw [if_pos rfl, if_pos rfl, lex_fuel l.length (r.length + 1) r (by omega) (by omega)]
theorem lex_w {l : List UInt8} {c : UInt8} {r : List UInt8} (h : nx l = c :: r) (hc : c ≠ 124) : lex l = .w ((c :: r).takeWhile tokc) (r.length + 1) :: lex ((c :: r).dropWhile tokc) := by
 have hd := dw_len blk1 l
 rw [show l.dropWhile blk1 = c :: r from h] at hd
 simp only [List.length_cons] at hd
 have h4 := nx_head h
 have h5 : tokc c = true := by
  unfold tokc
  rw [Bool.and_eq_true, Bool.not_eq_true', Bool.not_eq_true', ← Bool.not_eq_true, ← Bool.not_eq_true, beq_iff_eq, beq_iff_eq]
  exact ⟨h4, hc⟩
 have h3 : ((c :: r).dropWhile tokc).length ≤ r.length := by
  rw [List.dropWhile_cons, if_pos h5]
  exact dw_len tokc r
 unfold lex
 conv => lhs; unfold lexN
 rw [show l.dropWhile blk1 = c :: r from h]
 show (if c = 124 then _ else _) = _
 rw [if_neg hc, lex_fuel l.length _ _ (by omega) (Nat.lt_succ_self _)]
theorem lex_nx (l : List UInt8) : lex (nx l) = lex l := by
 have hh : nx (nx l) = nx l := by
  cases h : nx l with
  | nil => rfl
  | cons c r =>
   have := nx_head h
   show (c :: r).dropWhile blk1 = _
   rw [List.dropWhile_cons, if_neg (by simpa using this)]
 cases h : nx l with
 | nil => rw [lex_nil h]; exact lex_nil rfl
 | cons c r =>
  rw [h] at hh
  by_cases hc : c = 124
  ·subst hc
   cases r with
   | nil => rw [lex_bad1 h, lex_bad1 hh]
   | cons d r =>
    by_cases hd : d = 124
    ·subst hd; rw [lex_bar h, lex_bar hh]
    ·rw [lex_bad h hd, lex_bad hh hd]
  ·rw [lex_w h hc, lex_w hh hc]
/-! the reader -/
theorem F156_is (s : ByteArray) (i : Nat) : F156 (s, (i : Int), ()) = some ((if i < s.size then bt s (i : Int) else 0), decide (i < s.size), s, (i : Int), ()) := by
 rw [F156_eq]
 by_cases h : i < s.size
 ·rw [if_pos h, decide_eq_true h, show decide ((i : Int) ≥ Int.ofNat s.size) = false from decide_eq_false (by show ¬ (s.size : Int) ≤ _; omega), cF, ge_zero, lt_in h]
  rfl
 ·rw [if_neg h, decide_eq_false h, show decide ((i : Int) ≥ Int.ofNat s.size) = true from decide_eq_true (by show (s.size : Int) ≤ _; omega), cT]
  rfl
theorem idx_one (c : UInt8) : decide (Lib.indexByte [32] c ≥ Int.ofNat 0) = (c == 32) := by
 unfold Lib.indexByte
 cases h : ((32 : UInt8) == c) with
 | true =>
  have : c = 32 := by simpa using (beq_iff_eq.1 h).symm
  subst this; rfl
 | false =>
  have : (c == 32) = false := by
   rw [← Bool.not_eq_true, beq_iff_eq]
   intro hc
   rw [hc] at h
   exact absurd h (by decide)
  rw [this]
  rfl
theorem F126_is (s : ByteArray) (hs : s.size ≤ 1099511627000) (j : Nat) (hj : j ≤ s.size) : ∃ x, F126 ((lit [32]), s, (j : Int), ()) = some (x, s, ((s.size - (nx ((bs s).drop j)).length : Nat) : Int), ()) := by
 have hl := bs_size s
 rw [F126_eq, F156_is, obs]
 have := scan (B := B126_0) (bs s) blk1 (fun i => (lit [32], (j : Int), (if i < s.size then bt s (i : Int) else 0), decide (i < s.size), s, (i : Int), ())) (fun i => ((j : Int), s, (i : Int), ())) (fun i h hp => by
  have hb : bt s (i : Int) = (((bs s)[i]'h).toNat : Int) := bt_eq s i (by omega)
  generalize (bs s)[i]'h = c at hb hp
  have hlt : i < s.size := by omega
  rw [B126_0_eq, decide_eq_true hlt, cT, if_pos hlt, hb, F133_eq, F161_eq, obs, xIndexByte_eq, bs_lit, Int.toNat_natCast, show c.toNat.toUInt8 = c from UInt8.ofNat_toNat, obs]
  simp only
  rw [idx_one, show (c == 32) = true from hp, cT, wrap_next hlt (by omega), F156_is, obs]) (fun i h hp => by
  have hb : bt s (i : Int) = (((bs s)[i]'h).toNat : Int) := bt_eq s i (by omega)
  generalize (bs s)[i]'h = c at hb hp
  have hlt : i < s.size := by omega
  rw [B126_0_eq, decide_eq_true hlt, cT, if_pos hlt, hb, F133_eq, F161_eq, obs, xIndexByte_eq, bs_lit, Int.toNat_natCast, show c.toNat.toUInt8 = c from UInt8.ofNat_toNat, obs]
  simp only
  rw [idx_one, show (c == 32) = false from hp, cF]) (by
  rw [B126_0_eq, decide_eq_false (by omega), cF]) j (by omega)
 rw [this, obs]
 simp only
 have h1 := tw_len blk1 ((bs s).drop j)
 rw [List.length_drop] at h1
 have h2 := congrArg List.length (dw_drop blk1 ((bs s).drop j))
 rw [List.length_drop, List.length_drop] at h2
 have h3 : j + (((bs s).drop j).takeWhile blk1).length = s.size - (nx ((bs s).drop j)).length := by
  show _ = s.size - (((bs s).drop j).dropWhile blk1).length
  omega
 rw [h3]
 have e : (decide (Int.ofNat 0 ≤ (j : Int)) && (decide ((j : Int) ≤ ((s.size - (nx ((bs s).drop j)).length : Nat) : Int)) && decide (((s.size - (nx ((bs s).drop j)).length : Nat) : Int) ≤ Int.ofNat s.size))) = true := by
  rw [ge_zero, Bool.true_and, Bool.and_eq_true, decide_eq_true_eq, decide_eq_true_eq]
  exact ⟨by omega, by show _ ≤ (s.size : Int); omega⟩
 rw [e, cT, F104_is _ (by rw [bs_size, bs_extract, List.length_drop, List.length_take]; omega), obs]
 exact ⟨_, rfl⟩
theorem nx_drop (s : ByteArray) (j : Nat) (hj : j ≤ s.size) : nx ((bs s).drop j) = (bs s).drop (s.size - (nx ((bs s).drop j)).length) ∧ j ≤ s.size - (nx ((bs s).drop j)).length := by
 have hl := bs_size s
 have h1 := tw_len blk1 ((bs s).drop j)
 rw [List.length_drop] at h1
 have h2 := dw_drop blk1 ((bs s).drop j)
 have h3 := congrArg List.length h2
 rw [List.length_drop, List.length_drop] at h3
 rw [List.drop_drop] at h2
 have h4 : j + (((bs s).drop j).takeWhile blk1).length = s.size - (nx ((bs s).drop j)).length := by
  show _ = s.size - (((bs s).drop j).dropWhile blk1).length
  omega
 rw [h4] at h2
 exact ⟨h2, by omega⟩
def idxAny (l : List UInt8) : Int := if l.dropWhile tokc = [] then -1 else ((l.takeWhile tokc).length : Int)
theorem any_is : ∀ l : List UInt8, Lib.indexAny l [32, 124] = idxAny l
 | [] => rfl
 | x :: l => by
  have ih := any_is l
  unfold Lib.indexAny idxAny
  rw [List.takeWhile_cons, List.dropWhile_cons, ih]
  have hx : [32, 124].contains x = !tokc x := by
   unfold tokc
   simp only [List.contains_cons, List.contains_nil, Bool.or_false]
   rw [Bool.not_and, Bool.not_not, Bool.not_not]
  rw [hx]
  cases ht : tokc x with
  | false => rfl
  | true =>
   simp only [Bool.not_true, Bool.false_eq_true, if_false, if_true]
   unfold idxAny
   by_cases h : l.dropWhile tokc = []
   ·rw [if_pos h, if_pos h]; rfl
   ·rw [if_neg h, if_neg h]
    have h2 : ∀ n : Nat, (((n : Nat) : Int) == -1) = false := fun n => by
     rw [← Bool.not_eq_true, beq_iff_eq]; omega
    rw [h2]
    simp
def AnyOk (s : ByteArray) : Prop := ∀ k, k ≤ s.size → FIndexAny (s.extract k s.size, (lit [32, 124]), ()) = some (idxAny ((bs s).drop k), ())
abbrev wd (l : List UInt8) : List UInt8 := (nx l).takeWhile tokc
abbrev fr (s : ByteArray) (j : Nat) : Nat := s.size - (nx ((bs s).drop j)).length
theorem F52_is (s : ByteArray) (hs : s.size ≤ 1099511627000) (w : ByteArray) (j : Nat) (hj : j ≤ s.size) : F52 (w, s, (j : Int), ()) = some (decide (bs w <+: (bs s).drop j), s, (if bs w <+: (bs s).drop j then ((j + w.size : Nat) : Int) else (j : Int)), ()) := by
 have hl := bs_size s
 have hwl := bs_size w
 rw [F52_eq]
 have e : (decide (Int.ofNat 0 ≤ (j : Int)) && (decide ((j : Int) ≤ Int.ofNat s.size) && decide (Int.ofNat s.size ≤ Int.ofNat s.size))) = true := by
  rw [ge_zero, Bool.true_and, Bool.and_eq_true, decide_eq_true_eq, decide_eq_true_eq]
  exact ⟨by show (j : Int) ≤ (s.size : Int); omega, Int.le_refl _⟩
 have hb : bs (s.extract (Int.toNat (j : Int)) (Int.toNat (Int.ofNat s.size))) = (bs s).drop j := by
  rw [bs_extract, Int.toNat_natCast]
  show ((bs s).take s.size).drop j = _
  rw [hl, List.take_length]
 rw [e, cT, F82_eq, F106_is, hb, obs, obs]
 simp only
 by_cases h : bs w <+: (bs s).drop j
 ·have hle := h.length_le
  rw [List.length_drop] at hle
  rw [decide_eq_true h, if_pos h, Bool.not_true, cF]
  have : IntKind.wrap IntKind.i64 ((j : Int) + Int.ofNat w.size) = ((j + w.size : Nat) : Int) := by
   show IntKind.wrap IntKind.i64 ((j : Int) + (w.size : Int)) = _
   rw [wrap64 (by omega) (by omega)]; omega
  rw [this]
 ·rw [decide_eq_false h, if_neg h]
  rfl
theorem F78_is (s : ByteArray) (hs : s.size ≤ 1099511627000) (hA : AnyOk s) (word : ByteArray) (x2 : Int) (j : Nat) (hj : j ≤ s.size) :
  F78 (s, word, x2, s, (j : Int), ()) = some (!(wd ((bs s).drop j)).isEmpty, s, lit (wd ((bs s).drop j)), ((fr s j : Nat) : Int), s, ((fr s j + (wd ((bs s).drop j)).length : Nat) : Int), ()) := by
 have hl := bs_size s
 obtain ⟨x, h1⟩ := F126_is s hs j hj
 rw [F78_eq, F96_eq, h1, obs, obs]
 simp only
 obtain ⟨hn, hjf⟩ := nx_drop s j hj
 have hf : fr s j ≤ s.size := Nat.sub_le _ _
 rw [show s.size - (nx ((bs s).drop j)).length = fr s j from rfl] at *
 have hw : wd ((bs s).drop j) = ((bs s).drop (fr s j)).takeWhile tokc := by show (nx ((bs s).drop j)).takeWhile tokc = _; rw [hn]
 rw [hw]
 generalize fr s j = k at *
 have e : (decide (Int.ofNat 0 ≤ (k : Int)) && (decide ((k : Int) ≤ Int.ofNat s.size) && decide (Int.ofNat s.size ≤ Int.ofNat s.size))) = true := by
  rw [ge_zero, Bool.true_and, Bool.and_eq_true, decide_eq_true_eq, decide_eq_true_eq]
  exact ⟨by show (k : Int) ≤ (s.size : Int); omega, Int.le_refl _⟩
 have hFI : FIndexAny (s.extract (Int.toNat (k : Int)) (Int.toNat (Int.ofNat s.size)), (lit [32, 124]), ()) = _ := hA k hf
 rw [e, cT, hFI, obs]
 unfold idxAny
 have htl := tw_len tokc ((bs s).drop k)
 rw [List.length_drop] at htl
 have htk := tw_take tokc ((bs s).drop k)
 have happ := List.takeWhile_append_dropWhile (p := tokc) (l := (bs s).drop k)
 have hpre : ((bs s).drop k).takeWhile tokc <+: (bs s).drop k := ⟨_, happ⟩
 have hdec : ∀ u : List UInt8, decide (((u.length : Nat) : Int) > Int.ofNat 0) = !u.isEmpty := fun u => by
  cases u with
  | nil => rfl
  | cons x u => exact decide_eq_true (by show (0 : Int) < ((u.length + 1 : Nat) : Int); omega)
 by_cases hd : ((bs s).drop k).dropWhile tokc = []
 ·rw [if_pos hd]
  rw [hd, List.append_nil] at happ
  have hlen : (((bs s).drop k).takeWhile tokc).length = s.size - k := by rw [happ, List.length_drop, hl]
  generalize hT : ((bs s).drop k).takeWhile tokc = T at *
  have e1 : IntKind.wrap IntKind.i64 (Int.ofNat s.size - (k : Int)) = ((T.length : Nat) : Int) := by
   show IntKind.wrap IntKind.i64 ((s.size : Int) - (k : Int)) = _
   rw [wrap64 (by omega) (by omega)]; omega
  have e2 : IntKind.wrap IntKind.i64 ((k : Int) + ((T.length : Nat) : Int)) = ((k + T.length : Nat) : Int) := by
   rw [wrap64 (by omega) (by omega)]; omega
  have e3 : (decide (Int.ofNat 0 ≤ (k : Int)) && (decide ((k : Int) ≤ ((k + T.length : Nat) : Int)) && decide (((k + T.length : Nat) : Int) ≤ Int.ofNat s.size))) = true := by
   rw [ge_zero, Bool.true_and, Bool.and_eq_true, decide_eq_true_eq, decide_eq_true_eq]
   exact ⟨by omega, by show _ ≤ (s.size : Int); omega⟩
  have e4 : s.extract (Int.toNat (k : Int)) (Int.toNat ((k + T.length : Nat) : Int)) = lit T := bs_inj (by
   rw [bs_extract, Int.toNat_natCast, Int.toNat_natCast, bs_lit, List.drop_take, show k + T.length - k = T.length by omega]
   exact htk.symm)
  simp only
  rw [show decide ((-1 : Int) < Int.ofNat 0) = true from rfl, cT, e1, e2, e3, cT, e4, F52_is s hs (lit T) k hf, bs_lit, decide_eq_true hpre, if_pos hpre, obs]
  simp only
  rw [cT, hdec]
  rfl
 ·rw [if_neg hd]
  generalize hT : ((bs s).drop k).takeWhile tokc = T at *
  have e2 : IntKind.wrap IntKind.i64 ((k : Int) + ((T.length : Nat) : Int)) = ((k + T.length : Nat) : Int) := by
   rw [wrap64 (by omega) (by omega)]; omega
  have e3 : (decide (Int.ofNat 0 ≤ (k : Int)) && (decide ((k : Int) ≤ ((k + T.length : Nat) : Int)) && decide (((k + T.length : Nat) : Int) ≤ Int.ofNat s.size))) = true := by
   rw [ge_zero, Bool.true_and, Bool.and_eq_true, decide_eq_true_eq, decide_eq_true_eq]
   exact ⟨by omega, by show _ ≤ (s.size : Int); omega⟩
  have e4 : s.extract (Int.toNat (k : Int)) (Int.toNat ((k + T.length : Nat) : Int)) = lit T := bs_inj (by
   rw [bs_extract, Int.toNat_natCast, Int.toNat_natCast, bs_lit, List.drop_take, show k + T.length - k = T.length by omega]
   exact htk.symm)
  simp only
  rw [show decide (((T.length : Nat) : Int) < Int.ofNat 0) = false from decide_eq_false (by show ¬ ((T.length : Nat) : Int) < 0; omega), cF, e2, e3, cT, e4, F52_is s hs (lit T) k hf, bs_lit, decide_eq_true hpre, if_pos hpre, obs]
  simp only
  rw [cT, hdec]
  rfl
end Go.Vx.Z
/-! span.Parse. -/
namespace Go.Vx.Z
open Go Go.Vx
set_option linter.unusedVariables false
set_option maxRecDepth 100000
abbrev bh (s : ByteArray) (j : Nat) : Nat := fr s j + (wd ((bs s).drop j)).length
theorem fr_le (s : ByteArray) (j : Nat) (hj : j ≤ s.size) : j ≤ fr s j ∧ fr s j ≤ s.size := ⟨(nx_drop s j hj).2, Nat.sub_le _ _⟩
theorem bh_le (s : ByteArray) (j : Nat) (hj : j ≤ s.size) : fr s j ≤ bh s j ∧ bh s j ≤ s.size := by
 obtain ⟨h1, h2⟩ := nx_drop s j hj
 have h3 := tw_len tokc (nx ((bs s).drop j))
 have hl := bs_size s
 have h4 : (nx ((bs s).drop j)).length ≤ s.size := by
  have h5 : (nx ((bs s).drop j)).length ≤ ((bs s).drop j).length := dw_len blk1 _
  rw [List.length_drop] at h5
  omega
 refine ⟨Nat.le_add_right _ _, ?_⟩
 show s.size - (nx ((bs s).drop j)).length + ((nx ((bs s).drop j)).takeWhile tokc).length ≤ s.size
 omega
theorem bh_drop (s : ByteArray) (j : Nat) (hj : j ≤ s.size) : (bs s).drop (bh s j) = (nx ((bs s).drop j)).dropWhile tokc := by
 obtain ⟨h1, h2⟩ := nx_drop s j hj
 have h3 : (nx ((bs s).drop j)).dropWhile tokc = (nx ((bs s).drop j)).drop (wd ((bs s).drop j)).length := dw_drop _ _
 have h4 : nx ((bs s).drop j) = (bs s).drop (fr s j) := h1
 rw [h3, congrArg (List.drop (wd ((bs s).drop j)).length) h4, List.drop_drop]
theorem wd_nil {l : List UInt8} (h : wd l = []) : nx l = [] ∨ ∃ r, nx l = 124 :: r := by
 cases hn : nx l with
 | nil => exact .inl rfl
 | cons c r =>
  right
  have h1 := nx_head hn
  have h2 : (nx l).takeWhile tokc = [] := h
  rw [hn, List.takeWhile_cons] at h2
  split at h2
  ·cases h2
  ·rename_i ht
   have h3 : tokc c = false := by simpa using ht
   unfold tokc at h3
   rw [show (c == 32) = false by simpa using h1, Bool.not_false, Bool.true_and, Bool.not_eq_false', beq_iff_eq] at h3
   exact ⟨r, by rw [h3]⟩
theorem lex_word (s : ByteArray) (j : Nat) (hj : j ≤ s.size) (h : wd ((bs s).drop j) ≠ []) : lex ((bs s).drop j) = .w (wd ((bs s).drop j)) (s.size - fr s j) :: lex ((bs s).drop (bh s j)) ∧ j < bh s j := by
 have hl := bs_size s
 have h4 : (nx ((bs s).drop j)).length ≤ s.size := by
  have h5 : (nx ((bs s).drop j)).length ≤ ((bs s).drop j).length := dw_len blk1 _
  rw [List.length_drop] at h5
  omega
 have hb := bh_drop s j hj
 have hf := fr_le s j hj
 have hlen := List.length_pos_iff.2 h
 cases hn : nx ((bs s).drop j) with
 | nil =>
  have : (nx ((bs s).drop j)).takeWhile tokc = [] := by rw [hn]; rfl
  exact absurd this h
 | cons c r =>
  have hc : c ≠ 124 := by
   intro hc
   have : (nx ((bs s).drop j)).takeWhile tokc = [] := by
    rw [hn, hc]
    rfl
   exact h this
  rw [lex_w hn hc]
  have hbd : bh s j = fr s j + (wd ((bs s).drop j)).length := rfl
  refine ⟨?_, by omega⟩
  rw [hb]
  have e1 : wd ((bs s).drop j) = (c :: r).takeWhile tokc := by show (nx ((bs s).drop j)).takeWhile tokc = _; rw [hn]
  have e2 : s.size - fr s j = r.length + 1 := by
   show s.size - (s.size - (nx ((bs s).drop j)).length) = _
   rw [hn] at h4 ⊢
   simp only [List.length_cons] at h4 ⊢
   omega
  rw [e1, e2, hn]
theorem lex_stop (s : ByteArray) (j : Nat) (hj : j ≤ s.size) (h : wd ((bs s).drop j) = []) :
  (lex ((bs s).drop j) = [.fin] ∧ fr s j = s.size) ∨ (lex ((bs s).drop j) = [.bad (s.size - fr s j)] ∧ fr s j < s.size ∧ ¬ [124, 124] <+: (bs s).drop (fr s j)) ∨
  (lex ((bs s).drop j) = .bar (s.size - fr s j) :: lex ((bs s).drop (fr s j + 2)) ∧ fr s j + 2 ≤ s.size ∧ [124, 124] <+: (bs s).drop (fr s j)) := by
 have hl := bs_size s
 have h4 : (nx ((bs s).drop j)).length ≤ s.size := by
  have h5 : (nx ((bs s).drop j)).length ≤ ((bs s).drop j).length := dw_len blk1 _
  rw [List.length_drop] at h5
  omega
 obtain ⟨hn, hf⟩ := nx_drop s j hj
 have e2 : s.size - fr s j = (nx ((bs s).drop j)).length := by show s.size - (s.size - _) = _; omega
 have e3 : fr s j = s.size - (nx ((bs s).drop j)).length := rfl
 have hn' : nx ((bs s).drop j) = (bs s).drop (fr s j) := hn
 rcases wd_nil h with h1 | ⟨r, h1⟩
 ·left
  refine ⟨lex_nil h1, ?_⟩
  rw [e3, h1]; rfl
 ·right
  rw [h1] at hn' e2 e3 h4
  cases r with
  | nil =>
   left
   simp only [List.length_cons, List.length_nil] at e2 e3 h4
   refine ⟨by rw [lex_bad1 h1, e2], by omega, ?_⟩
   rw [← hn']
   intro hp
   have := hp.length_le
   simp at this
  | cons d r =>
   simp only [List.length_cons] at e2 e3 h4
   by_cases hd : d = 124
   ·right
    subst hd
    refine ⟨?_, by omega, ?_⟩
    ·rw [lex_bar h1, e2]
     have : (bs s).drop (fr s j + 2) = r := by rw [← List.drop_drop, ← hn']; rfl
     rw [this]
    ·rw [← hn']
     exact ⟨r, rfl⟩
   ·left
    refine ⟨by rw [lex_bad h1 hd, e2], by omega, ?_⟩
    rw [← hn']
    rintro ⟨t, ht⟩
    injection ht with _ ht
    injection ht with ht _
    exact hd ht.symm
theorem stop_start (s : ByteArray) (j : Nat) (hj : j ≤ s.size) (h : wd ((bs s).drop j) = []) (out acc : List Span) : goP (lex ((bs s).drop j)) out acc .start = .inr (s.size - fr s j) := by
 rcases lex_stop s j hj h with ⟨h1, h2⟩ | ⟨h1, h2, _⟩ | ⟨h1, h2, _⟩
 ·rw [h1, h2, Nat.sub_self]; rfl
 ·rw [h1]; rfl
 ·rw [h1]; rfl
theorem stop_dash (s : ByteArray) (j : Nat) (hj : j ≤ s.size) (h : wd ((bs s).drop j) = []) (out acc : List Span) (v : PV) : goP (lex ((bs s).drop j)) out acc (.dash v) = .inr (s.size - fr s j) := by
 rcases lex_stop s j hj h with ⟨h1, h2⟩ | ⟨h1, h2, _⟩ | ⟨h1, h2, _⟩
 ·rw [h1, h2, Nat.sub_self]; rfl
 ·rw [h1]; rfl
 ·rw [h1]; rfl
theorem go_mid {u : List UInt8} {p : Nat} {ts : List Tok} {out acc : List Span} : goP (.w u p :: ts) out acc .mid = match itemS u with
   | none => .inr p
   | some M => (match verP u with
    | some y => goP ts out acc (.plain y M)
    | none => goP ts out (andS acc M) .mid) := rfl
theorem go_start {u : List UInt8} {p : Nat} {ts : List Tok} {out acc : List Span} : goP (.w u p :: ts) out acc .start = goP (.w u p :: ts) out acc .mid := rfl
theorem go_dash {u : List UInt8} {p : Nat} {ts : List Tok} {out acc : List Span} {v : PV} : goP (.w u p :: ts) out acc (.dash v) = match verP u with
   | none => .inr p
   | some y => goP ts out (andS acc (btw (ptV (vOf v)) (ptOf (vOf y) true false))) .mid := rfl
theorem go_plain {u : List UInt8} {p : Nat} {ts : List Tok} {out acc : List Span} {v : PV} {L : List Span} : goP (.w u p :: ts) out acc (.plain v L) = if u = [45] then goP ts out acc (.dash v) else goP (.w u p :: ts) out (andS acc L) .mid := rfl
theorem plain_mid (s : ByteArray) (j : Nat) (hj : j ≤ s.size) (h : wd ((bs s).drop j) ≠ [45]) (out acc : List Span) (v : PV) (L : List Span) : goP (lex ((bs s).drop j)) out acc (.plain v L) = goP (lex ((bs s).drop j)) out (andS acc L) .mid := by
 by_cases h0 : wd ((bs s).drop j) = []
 ·rcases lex_stop s j hj h0 with ⟨h1, h2⟩ | ⟨h1, h2, _⟩ | ⟨h1, h2, _⟩ <;> rw [h1] <;> rfl
 ·obtain ⟨h1, _⟩ := lex_word s j hj h0
  rw [h1, go_plain, if_neg h]
theorem fr_fix (s : ByteArray) (j : Nat) (hj : j ≤ s.size) : nx ((bs s).drop (fr s j)) = (bs s).drop (fr s j) ∧ wd ((bs s).drop (fr s j)) = wd ((bs s).drop j) ∧ lex ((bs s).drop (fr s j)) = lex ((bs s).drop j) ∧ fr s (fr s j) = fr s j := by
 obtain ⟨hn, hf⟩ := nx_drop s j hj
 have hn' : nx ((bs s).drop j) = (bs s).drop (fr s j) := hn
 have hh : nx (nx ((bs s).drop j)) = nx ((bs s).drop j) := by
  cases h : nx ((bs s).drop j) with
  | nil => rfl
  | cons c r =>
   have := nx_head h
   show (c :: r).dropWhile blk1 = _
   rw [List.dropWhile_cons, if_neg (by simpa using this)]
 have h1 : nx ((bs s).drop (fr s j)) = (bs s).drop (fr s j) := by rw [← hn', hh]
 refine ⟨h1, ?_, ?_, ?_⟩
 ·show (nx ((bs s).drop (fr s j))).takeWhile tokc = (nx ((bs s).drop j)).takeWhile tokc
  rw [h1, hn']
 ·rw [← hn', lex_nx]
 ·show s.size - (nx ((bs s).drop (fr s j))).length = s.size - (nx ((bs s).drop j)).length
  rw [h1, ← hn']
abbrev PE := (List Span × Bool × ByteArray × ByteArray × Int × ByteArray × Int × Unit) ⊕ (ByteArray × ByteArray × Int × ByteArray × Int × Unit)
def PartEnd (s : ByteArray) (a0 j : Nat) (e : PE) (g : List Span → List Span ⊕ Nat) : Prop :=
 (∃ rem w x, rem ≤ s.size ∧ e = .inl ([], false, s, w, ((s.size - rem : Nat) : Int), s, x, ()) ∧ ∀ out, g out = .inr rem) ∨
 (∃ acc' w k, e = .inl (acc', true, s, w, ((k : Nat) : Int), s, ((k : Nat) : Int), ()) ∧ k ≤ s.size ∧ j ≤ k ∧ Nrm acc' ∧ Rng acc' ∧ acc'.length + 2 * a0 ≤ 2 * k + 1 ∧ fr s k = k ∧ wd ((bs s).drop k) = [] ∧ ∀ out, g out = goP (lex ((bs s).drop k)) out acc' .mid)
theorem part_next (s : ByteArray) (hs : s.size ≤ 400000) (a0 j0 j : Nat) (hj : j ≤ s.size) (hj0 : j0 ≤ j) (acc2 : List Span) (hn : Nrm acc2) (hr : Rng acc2) (hlen : acc2.length + 2 * a0 ≤ 2 * j + 1)
  (ih : ∀ (j' : Nat) (acc' : List Span) (u' : List UInt8) (p' : Nat) (n' : Int), j0 < j' → j' ≤ s.size → p' ≤ s.size → u'.length ≤ s.size → Nrm acc' → Rng acc' → acc'.length + 1 + 2 * a0 ≤ 2 * j' →
   ∃ e : PE, loop B51_0 (acc', true, n', s, lit u', ((s.size - p' : Nat) : Int), s, (j' : Int), ()) = some e ∧ PartEnd s a0 j' e (fun out => goP (.w u' p' :: lex ((bs s).drop j')) out acc' .mid))
  (P : List Span × Bool × Int × ByteArray × ByteArray × Int × ByteArray × Int × Unit) (n' : Int)
  (hB : B51_0 P = bif !(!(wd ((bs s).drop j)).isEmpty) then some (.inr (.inl (acc2, true, s, lit (wd ((bs s).drop j)), ((fr s j : Nat) : Int), s, ((fr s j + (wd ((bs s).drop j)).length : Nat) : Int), ()))) else some (.inl (acc2, !(wd ((bs s).drop j)).isEmpty, n', s, lit (wd ((bs s).drop j)), ((fr s j : Nat) : Int), s, ((fr s j + (wd ((bs s).drop j)).length : Nat) : Int), ())))
  (g : List Span → List Span ⊕ Nat) (hg : ∀ out, g out = goP (lex ((bs s).drop j)) out acc2 .mid) : ∃ e : PE, loop B51_0 P = some e ∧ PartEnd s a0 j0 e g := by
 have hf := fr_le s j hj
 have hb := bh_le s j hj
 obtain ⟨k1, k2, k3, k4⟩ := fr_fix s j hj
 by_cases hw : wd ((bs s).drop j) = []
 ·rw [hw] at hB
  have hB' : B51_0 P = some (.inr (.inl (acc2, true, s, lit [], ((fr s j : Nat) : Int), s, ((fr s j : Nat) : Int), ()))) := hB
  refine ⟨_, loop_end hB', .inr ⟨acc2, lit [], fr s j, rfl, hf.2, by omega, hn, hr, by omega, k4, by rw [k2, hw], fun out => ?_⟩⟩
  rw [hg, k3]
 ·have he : (wd ((bs s).drop j)).isEmpty = false := by
   cases h : wd ((bs s).drop j) with
   | nil => exact absurd h hw
   | cons c r => rfl
  obtain ⟨l1, l2⟩ := lex_word s j hj hw
  rw [he, Bool.not_false, Bool.not_true, cF] at hB
  have hul : (wd ((bs s).drop j)).length ≤ s.size := by
   have : bh s j = fr s j + (wd ((bs s).drop j)).length := rfl
   omega
  obtain ⟨e, e1, e2⟩ := ih (bh s j) acc2 (wd ((bs s).drop j)) (s.size - fr s j) n' (by omega) hb.2 (by omega) hul hn hr (by omega)
  rw [show s.size - (s.size - fr s j) = fr s j by omega] at e1
  refine ⟨e, loop_step hB e1, ?_⟩
  rcases e2 with ⟨rem, w, x, q1, q2, q3⟩ | ⟨acc', w, k, q1, q2, q3, q4, q5, q6, q7, q8, q9⟩
  ·exact .inl ⟨rem, w, x, q1, q2, fun out => by rw [hg, l1]; exact q3 out⟩
  ·exact .inr ⟨acc', w, k, q1, q2, by omega, q4, q5, q6, q7, q8, fun out => by rw [hg, l1]; exact q9 out⟩
theorem part_step (s : ByteArray) (hs : s.size ≤ 400000) (hA : AnyOk s) (a0 : Nat) (N j : Nat) (acc : List Span) (u : List UInt8) (p : Nat) (n : Int) (hj : j ≤ s.size) (hp : p ≤ s.size) (hu : u.length ≤ s.size) (hn : Nrm acc) (hr : Rng acc) (hlen : acc.length + 1 + 2 * a0 ≤ 2 * j)
  (ih : ∀ (j' : Nat) (acc' : List Span) (u' : List UInt8) (p' : Nat) (n' : Int), j < j' → j' ≤ s.size → p' ≤ s.size → u'.length ≤ s.size → Nrm acc' → Rng acc' → acc'.length + 1 + 2 * a0 ≤ 2 * j' →
   ∃ e : PE, loop B51_0 (acc', true, n', s, lit u', ((s.size - p' : Nat) : Int), s, (j' : Int), ()) = some e ∧ PartEnd s a0 j' e (fun out => goP (.w u' p' :: lex ((bs s).drop j')) out acc' .mid)) :
  ∃ e : PE, loop B51_0 (acc, true, n, s, lit u, ((s.size - p : Nat) : Int), s, (j : Int), ()) = some e ∧ PartEnd s a0 j e (fun out => goP (.w u p :: lex ((bs s).drop j)) out acc .mid) := by
 have hus : (lit u).size ≤ 1099511627000 := by show u.length ≤ _; omega
 have h79 := F79_is (lit u) hus
 have h80 := F80_is (lit u) hus
 rw [bs_lit] at h79 h80
 have h78 := F78_is s (by omega) hA (lit u) ((s.size - p : Nat) : Int) j hj
 have hB := B51_0_eq acc true n s (lit u) ((s.size - p : Nat) : Int) s (j : Int)
 rw [h79, cT, obs] at hB
 cases hi : itemS u with
 | none =>
  rw [hi] at hB
  refine ⟨_, loop_end hB, .inl ⟨p, lit u, (j : Int), hp, rfl, fun out => ?_⟩⟩
  show goP (.w u p :: lex ((bs s).drop j)) out acc .mid = _
  rw [go_mid, hi]
 | some L =>
  obtain ⟨i1, i2, i3⟩ := item_ok hi
  obtain ⟨f1, f2, f3, _, f5⟩ := andS_says hn i1 hr (by omega) (by omega)
  rw [hi] at hB
  unfold optR at hB
  simp only [Bool.not_true, cF] at hB
  rw [h80, obs, h78, obs] at hB
  simp only at hB
  unfold verR at hB
  cases hv : verP u with
  | none =>
   rw [hv] at hB
   simp only [cF] at hB
   rw [f1, obs] at hB
   exact part_next s hs a0 j j hj (Nat.le_refl _) (andS acc L) f2 f3 (by omega) ih _ _ hB _ (fun out => by show goP (.w u p :: lex ((bs s).drop j)) out acc .mid = _; rw [go_mid, hi, hv])
  | some v =>
   rw [hv] at hB
   simp only [cT] at hB
   have hgo : ∀ out, goP (.w u p :: lex ((bs s).drop j)) out acc .mid = goP (lex ((bs s).drop j)) out acc (.plain v L) := fun out => by rw [go_mid, hi, hv]
   by_cases hw : wd ((bs s).drop j) = [45]
   ·rw [hw] at hB
    have e45 : (bl (lit [45]) == [45]) = true := rfl
    rw [show (!([45] : List UInt8).isEmpty) = true from rfl, cT, e45, cT] at hB
    obtain ⟨l1, l2⟩ := lex_word s j hj (by rw [hw]; simp)
    have hb := bh_le s j hj
    have hgo2 : ∀ out, goP (.w u p :: lex ((bs s).drop j)) out acc .mid = goP (lex ((bs s).drop (bh s j))) out acc (.dash v) := fun out => by rw [hgo, l1, go_plain, if_pos hw]
    have hbb : fr s j + ([45] : List UInt8).length = bh s j := by rw [← hw]
    rw [hbb] at hB
    generalize hj2 : bh s j = j2 at *
    have h78b := F78_is s (by omega) hA (lit [45]) ((fr s j : Nat) : Int) j2 hb.2
    rw [h78b, obs] at hB
    simp only at hB
    have hf2 := fr_le s j2 hb.2
    by_cases hw2 : wd ((bs s).drop j2) = []
    ·rw [hw2] at hB
     have hB' : B51_0 (acc, true, n, s, lit u, ((s.size - p : Nat) : Int), s, (j : Int), ()) = some (.inr (.inl ([], false, s, lit [], ((fr s j2 : Nat) : Int), s, ((fr s j2 : Nat) : Int), ()))) := hB
     refine ⟨_, loop_end hB', .inl ⟨s.size - fr s j2, lit [], _, Nat.sub_le _ _, by rw [show s.size - (s.size - fr s j2) = fr s j2 by omega], fun out => ?_⟩⟩
     show goP (.w u p :: lex ((bs s).drop j)) out acc .mid = _
     rw [hgo2, stop_dash s j2 hb.2 hw2]
    ·have he : (wd ((bs s).drop j2)).isEmpty = false := by
      cases h : wd ((bs s).drop j2) with
      | nil => exact absurd h hw2
      | cons c r => rfl
     rw [he, Bool.not_false, Bool.not_true, cF] at hB
     obtain ⟨m1, m2⟩ := lex_word s j2 hb.2 hw2
     have hb2 := bh_le s j2 hb.2
     have hul : (lit (wd ((bs s).drop j2))).size ≤ 1099511627000 := by
      have : bh s j2 = fr s j2 + (wd ((bs s).drop j2)).length := rfl
      show (wd ((bs s).drop j2)).length ≤ _
      omega
     have h80b := F80_is _ hul
     rw [bs_lit] at h80b
     rw [h80b, obs] at hB
     unfold verR at hB
     cases hv2 : verP (wd ((bs s).drop j2)) with
     | none =>
      rw [hv2] at hB
      refine ⟨_, loop_end hB, .inl ⟨s.size - fr s j2, _, _, Nat.sub_le _ _, by rw [show s.size - (s.size - fr s j2) = fr s j2 by omega], fun out => ?_⟩⟩
      show goP (.w u p :: lex ((bs s).drop j)) out acc .mid = _
      rw [hgo2, m1, go_dash, hv2]
     | some y =>
      rw [hv2] at hB
      simp only [Bool.not_true, cF] at hB
      have hov := (verP_ok hv).1
      have hoy := (verP_ok hv2).1
      have h81 : F81 ((v.1 : Int), (v.2.1 : Int), (v.2.2.1 : Int), lit v.2.2.2, false, false, (y.1 : Int), (y.2.1 : Int), (y.2.2.1 : Int), lit y.2.2.2, true, false, ()) = _ := F81_is (vOf v) (vOf y) false false true false (okP_ver false false true (vOk_V hov) (vOk_V hoy))
      have h78c := F78_is s (by omega) hA (lit (wd ((bs s).drop j2))) ((fr s j2 : Nat) : Int) (bh s j2) hb2.2
      obtain ⟨b1, b2, b3⟩ := btw_ver hov hoy
      obtain ⟨g1, g2, g3, _, g5⟩ := andS_says hn b1 hr (by omega) (by omega)
      rw [h81, obs, h78c, obs] at hB
      simp only at hB
      have g1' : F16 (acc, btw (ptOf (vOf v) false false) (ptOf (vOf y) true false), ()) = _ := g1
      rw [g1', obs] at hB
      exact part_next s hs a0 j (bh s j2) hb2.2 (by omega) _ g2 g3 (by omega) ih _ _ hB _ (fun out => by show goP (.w u p :: lex ((bs s).drop j)) out acc .mid = _; rw [hgo2, m1, go_dash, hv2])
   ·have hBB : B51_0 (acc, true, n, s, lit u, ((s.size - p : Nat) : Int), s, (j : Int), ()) = bif !(!(wd ((bs s).drop j)).isEmpty) then some (.inr (.inl (andS acc L, true, s, lit (wd ((bs s).drop j)), ((fr s j : Nat) : Int), s, ((fr s j + (wd ((bs s).drop j)).length : Nat) : Int), ()))) else some (.inl (andS acc L, !(wd ((bs s).drop j)).isEmpty, IntKind.wrap IntKind.i64 (n + Int.ofNat 1), s, lit (wd ((bs s).drop j)), ((fr s j : Nat) : Int), s, ((fr s j + (wd ((bs s).drop j)).length : Nat) : Int), ())) := by
     rw [hB, f1]
     have e45 : (bl (lit (wd ((bs s).drop j))) == [45]) = false := by
      rw [bs_toList, bs_lit]
      simpa using hw
     rw [e45]
     cases (wd ((bs s).drop j)).isEmpty with
     | true => simp only [Bool.not_true, cF, cT, Bool.not_false, obs]
     | false => simp only [Bool.not_true, cF, cT, Bool.not_false, obs]
    exact part_next s hs a0 j j hj (Nat.le_refl _) (andS acc L) f2 f3 (by omega) ih _ _ hBB _ (fun out => by show goP (.w u p :: lex ((bs s).drop j)) out acc .mid = _; rw [hgo, plain_mid s j hj hw])
theorem part_is (s : ByteArray) (hs : s.size ≤ 400000) (hA : AnyOk s) (a0 : Nat) : ∀ (N j : Nat) (acc : List Span) (u : List UInt8) (p : Nat) (n : Int), s.size - j ≤ N → j ≤ s.size → p ≤ s.size → u.length ≤ s.size → Nrm acc → Rng acc → acc.length + 1 + 2 * a0 ≤ 2 * j →
  ∃ e : PE, loop B51_0 (acc, true, n, s, lit u, ((s.size - p : Nat) : Int), s, (j : Int), ()) = some e ∧ PartEnd s a0 j e (fun out => goP (.w u p :: lex ((bs s).drop j)) out acc .mid) := by
 intro N
 induction N with
 | zero =>
  intro j acc u p n hN hj hp hu hn hr hlen
  exact part_step s hs hA a0 0 j acc u p n hj hp hu hn hr hlen (fun j' acc' u' p' n' h1 h2 => by omega)
 | succ N ih =>
  intro j acc u p n hN hj hp hu hn hr hlen
  exact part_step s hs hA a0 (N + 1) j acc u p n hj hp hu hn hr hlen (fun j' acc' u' p' n' h1 h2 h3 h4 h5 h6 h7 => ih j' acc' u' p' n' (by omega) h2 h3 h4 h5 h6 h7)
end Go.Vx.Z
/-! span.Parse, whole. -/
namespace Go.Vx.Z
open Go Go.Vx
set_option linter.unusedVariables false
set_option maxRecDepth 100000
theorem F51_is (s : ByteArray) (hs : s.size ≤ 400000) (hA : AnyOk s) (word : ByteArray) (x2 : Int) (j : Nat) (hj : j ≤ s.size) :
  (∃ rem w x, rem ≤ s.size ∧ F51 (s, word, x2, s, (j : Int), ()) = some ([], false, s, w, ((s.size - rem : Nat) : Int), s, x, ()) ∧ ∀ out, goP (lex ((bs s).drop j)) out allS .start = .inr rem) ∨
  (∃ acc' w k, F51 (s, word, x2, s, (j : Int), ()) = some (acc', true, s, w, ((k : Nat) : Int), s, ((k : Nat) : Int), ()) ∧ k ≤ s.size ∧ j ≤ k ∧ Nrm acc' ∧ Rng acc' ∧ acc'.length + 2 * j ≤ 2 * k + 1 ∧ fr s k = k ∧ wd ((bs s).drop k) = [] ∧ ∀ out, goP (lex ((bs s).drop j)) out allS .start = goP (lex ((bs s).drop k)) out acc' .mid) := by
 have h78 := F78_is s (by omega) hA word x2 j hj
 have hF := F51_eq s word x2 s (j : Int)
 rw [F77_is, obs, h78, obs] at hF
 simp only at hF
 have hb := bh_le s j hj
 have hbd : bh s j = fr s j + (wd ((bs s).drop j)).length := rfl
 by_cases hw : wd ((bs s).drop j) = []
 ·left
  rw [hw] at hF
  have hl : loop B51_0 (allS, !([] : List UInt8).isEmpty, Int.ofNat 0, s, lit [], ((fr s j : Nat) : Int), s, ((fr s j + ([] : List UInt8).length : Nat) : Int), ()) = some (.inr (s, lit [], ((fr s j : Nat) : Int), s, ((fr s j + ([] : List UInt8).length : Nat) : Int), ())) := loop_end (by rw [B51_0_eq]; rfl)
  rw [hl, obs, sR] at hF
  refine ⟨s.size - fr s j, lit [], ((fr s j + ([] : List UInt8).length : Nat) : Int), Nat.sub_le _ _, ?_, fun out => stop_start s j hj hw out allS⟩
  rw [show s.size - (s.size - fr s j) = fr s j by omega]
  exact hF
 ·have he : (wd ((bs s).drop j)).isEmpty = false := by
   cases h : wd ((bs s).drop j) with
   | nil => exact absurd h hw
   | cons c r => rfl
  obtain ⟨l1, l2⟩ := lex_word s j hj hw
  rw [he, Bool.not_false] at hF
  have hf := fr_le s j hj
  obtain ⟨e, e1, e2⟩ := part_is s hs hA j s.size (bh s j) allS (wd ((bs s).drop j)) (s.size - fr s j) (Int.ofNat 0) (by omega) hb.2 (by omega) (by omega) allS_says.1 allS_says.2.1 (by show 1 + 1 + 2 * j ≤ _; omega)
  rw [show s.size - (s.size - fr s j) = fr s j by omega] at e1
  rw [e1, obs] at hF
  rcases e2 with ⟨rem, w, x, q1, q2, q3⟩ | ⟨acc', w, k, q1, q2, q3, q4, q5, q6, q7, q8, q9⟩
  ·left
   rw [q2, sL] at hF
   exact ⟨rem, w, x, q1, hF, fun out => by rw [l1, go_start]; exact q3 out⟩
  ·right
   rw [q1, sL] at hF
   exact ⟨acc', w, k, hF, q2, by omega, q4, q5, q6, q7, q8, fun out => by rw [l1, go_start]; exact q9 out⟩
def parR (n : Nat) (r : List Span ⊕ Nat) : List Span × Int × Int × Unit := match r with
 | .inl R => (R, 0, 0, ())
 | .inr rem => ([], ((n - rem : Nat) : Int), 6, ())
def okR' (n : Nat) (r : List Span ⊕ Nat) : Prop := match r with
 | .inl R => Nrm R ∧ Rng R ∧ R.length ≤ 2 * n + 1
 | .inr rem => rem ≤ n
theorem all_step (s : ByteArray) (hs : s.size ≤ 400000) (hA : AnyOk s) (j : Nat) (out : List Span) (w : ByteArray) (x : Int) (hj : j ≤ s.size) (hn : Nrm out) (hr : Rng out) (hlen : out.length ≤ 2 * j)
  (ih : ∀ (j' : Nat) (out' : List Span) (w' : ByteArray) (x' : Int), j < j' → j' ≤ s.size → Nrm out' → Rng out' → out'.length ≤ 2 * j' →
   ∃ r : List Span ⊕ Nat, r = goP (lex ((bs s).drop j')) out' allS .start ∧ okR' s.size r ∧ loop B30_0 (s, out', s, w', x', s, (j' : Int), ()) = some (parR s.size r)) :
  ∃ r : List Span ⊕ Nat, r = goP (lex ((bs s).drop j)) out allS .start ∧ okR' s.size r ∧ loop B30_0 (s, out, s, w, x, s, (j : Int), ()) = some (parR s.size r) := by
 have hB := B30_0_eq s out s w x s (j : Int)
 rcases F51_is s hs hA w x j hj with ⟨rem, w', x', q1, q2, q3⟩ | ⟨acc', w', k, q1, q2, q3, q4, q5, q6, q7, q8, q9⟩
 ·rw [q2, obs] at hB
  simp only [Bool.not_false, cT] at hB
  refine ⟨_, rfl, ?_, loop_end ?_⟩
  ·rw [q3]; exact q1
  ·rw [q3]; exact hB
 ·obtain ⟨f1, f2, f3, _, f5⟩ := orS_says hn q4 hr q5 (by omega)
  rw [q1, obs] at hB
  simp only [Bool.not_true, cF] at hB
  rw [f1, obs] at hB
  simp only at hB
  rcases lex_stop s k q2 q8 with ⟨h1, h2⟩ | ⟨h1, h2, h3⟩ | ⟨h1, h2, h3⟩
  ·rw [q7] at h2
   rw [show (((k : Nat) : Int) == Int.ofNat s.size) = true by rw [beq_iff_eq]; show _ = (s.size : Int); omega, cT] at hB
   have hgo : goP (lex ((bs s).drop j)) out allS .start = .inl (orS out acc') := by rw [q9, h1]; rfl
   refine ⟨_, rfl, ?_, loop_end ?_⟩
   ·rw [hgo]; exact ⟨f2, f3, by omega⟩
   ·rw [hgo]; exact hB
  ·rw [q7] at h1 h2 h3
   rw [show (((k : Nat) : Int) == Int.ofNat s.size) = false by rw [← Bool.not_eq_true, beq_iff_eq]; show ¬ _ = (s.size : Int); omega, cF] at hB
   have h52 := F52_is s (by omega) (lit [124, 124]) k q2
   rw [bs_lit, decide_eq_false h3, if_neg h3] at h52
   rw [h52, obs] at hB
   have hw : IntKind.wrap IntKind.i64 (((k : Nat) : Int) + Int.ofNat 1) = ((k + 1 : Nat) : Int) := wrap64s k (by omega)
   simp only [Bool.not_false, cT, hw] at hB
   have hgo : goP (lex ((bs s).drop j)) out allS .start = .inr (s.size - k - 1) := by rw [q9, h1]; rfl
   refine ⟨_, rfl, ?_, loop_end ?_⟩
   ·rw [hgo]; show s.size - k - 1 ≤ s.size; omega
   ·rw [hgo]
    show B30_0 _ = some (Sum.inr ([], ((s.size - (s.size - k - 1) : Nat) : Int), 6, ()))
    rw [show s.size - (s.size - k - 1) = k + 1 by omega]
    exact hB
  ·rw [q7] at h1 h2 h3
   rw [show (((k : Nat) : Int) == Int.ofNat s.size) = false by rw [← Bool.not_eq_true, beq_iff_eq]; show ¬ _ = (s.size : Int); omega, cF] at hB
   have h52 := F52_is s (by omega) (lit [124, 124]) k q2
   rw [bs_lit, decide_eq_true h3, if_pos h3] at h52
   have e2 : ((k + (lit [124, 124]).size : Nat) : Int) = ((k + 2 : Nat) : Int) := rfl
   rw [e2] at h52
   rw [h52, obs] at hB
   simp only [Bool.not_true, cF] at hB
   obtain ⟨r, r1, r2, r3⟩ := ih (k + 2) (orS out acc') w' (k : Int) (by omega) h2 f2 f3 (by omega)
   refine ⟨r, ?_, r2, loop_step hB r3⟩
   rw [r1, q9, h1]
   rfl
theorem all_is (s : ByteArray) (hs : s.size ≤ 400000) (hA : AnyOk s) : ∀ (N j : Nat) (out : List Span) (w : ByteArray) (x : Int), s.size - j ≤ N → j ≤ s.size → Nrm out → Rng out → out.length ≤ 2 * j →
  ∃ r : List Span ⊕ Nat, r = goP (lex ((bs s).drop j)) out allS .start ∧ okR' s.size r ∧ loop B30_0 (s, out, s, w, x, s, (j : Int), ()) = some (parR s.size r) := by
 intro N
 induction N with
 | zero =>
  intro j out w x hN hj hn hr hlen
  exact all_step s hs hA j out w x hj hn hr hlen (fun j' out' w' x' h1 h2 => by omega)
 | succ N ih =>
  intro j out w x hN hj hn hr hlen
  exact all_step s hs hA j out w x hj hn hr hlen (fun j' out' w' x' h1 h2 h3 h4 h5 => ih j' out' w' x' (by omega) h2 h3 h4 h5)
theorem F30_is (s : ByteArray) (hs : s.size ≤ 400000) (hA : AnyOk s) : okR' s.size (goP (lex (bs s)) [] allS .start) ∧ F30 (s, ()) = some (parR s.size (goP (lex (bs s)) [] allS .start)) := by
 obtain ⟨r', h1', h2', h3'⟩ := all_is s hs hA s.size 0 [] (lit []) (Int.ofNat 0) (by omega) (Nat.zero_le _) nrm_nil.1 nrm_nil.2 (Nat.zero_le _)
 rw [List.drop_zero] at h1'
 subst h1'
 refine ⟨h2', ?_⟩
 rw [F30_eq, F50_eq, obs]
 have h4 : loop B30_0 (s, [], s, (lit []), Int.ofNat 0, s, Int.ofNat 0, ()) = _ := h3'
 rw [h4, obs]
end Go.Vx.Z
/-! The document's Parse. -/
namespace Go.Vx.Z
open Go Go.Vx
set_option linter.unusedVariables false
set_option maxRecDepth 100000
theorem F84_is (s : ByteArray) (hs : s.size ≤ 1099511627000) (j : Nat) (hj : j ≤ s.size) : F84 (s, (j : Int), ()) = some (s, ((fr s j : Nat) : Int), ()) := by
 have hl := bs_size s
 rw [F84_eq]
 have := scan (B := B84_0) (bs s) blk1 (fun i => (s, (i : Int), ())) (fun i => (s, (i : Int), ())) (fun i h hp => by
  have hb : bt s (i : Int) = (((bs s)[i]'h).toNat : Int) := bt_eq s i (by omega)
  generalize (bs s)[i]'h = c at hb hp
  have hlt : i < s.size := by omega
  have h32 : (((c.toNat : Nat) : Int) == Int.ofNat 32) = (c == 32) := u8_beq c 32
  rw [B84_0_eq, lt_in hlt, ge_zero, hb, h32, show (c == 32) = true from hp, wrap_next hlt (by omega), cT, Bool.and_self, cT, cT]) (fun i h hp => by
  have hb : bt s (i : Int) = (((bs s)[i]'h).toNat : Int) := bt_eq s i (by omega)
  generalize (bs s)[i]'h = c at hb hp
  have hlt : i < s.size := by omega
  have h32 : (((c.toNat : Nat) : Int) == Int.ofNat 32) = (c == 32) := u8_beq c 32
  rw [B84_0_eq, lt_in hlt, ge_zero, hb, h32, show (c == 32) = false from hp, cT, Bool.and_self, cT, cF]) (by
  rw [B84_0_eq]
  rw [← hl, lt_out, cF]) j (by omega)
 rw [this, obs]
 have h1 := tw_len blk1 ((bs s).drop j)
 rw [List.length_drop] at h1
 have h2 := congrArg List.length (dw_drop blk1 ((bs s).drop j))
 rw [List.length_drop, List.length_drop] at h2
 have h3 : j + (((bs s).drop j).takeWhile blk1).length = fr s j := by
  show _ = s.size - (((bs s).drop j).dropWhile blk1).length
  omega
 rw [h3]
theorem F85_is (s : ByteArray) (hs : s.size ≤ 1099511627000) (j : Nat) (hj : j ≤ s.size) (hf : fr s j = j) : F85 (s, (j : Int), ()) = some (lit (wd ((bs s).drop j)), (j : Int), s, ((fr s (bh s j) : Nat) : Int), ()) := by
 have hl := bs_size s
 rw [F85_eq]
 have := scan (B := B85_0) (bs s) tokc (fun i => ((j : Int), s, (i : Int), ())) (fun i => ((j : Int), s, (i : Int), ())) (fun i h hp => by
  have hb : bt s (i : Int) = (((bs s)[i]'h).toNat : Int) := bt_eq s i (by omega)
  generalize (bs s)[i]'h = c at hb hp
  have hlt : i < s.size := by omega
  have h32 : (((c.toNat : Nat) : Int) == Int.ofNat 32) = (c == 32) := u8_beq c 32
  have h124 : (((c.toNat : Nat) : Int) == Int.ofNat 124) = (c == 124) := u8_beq c 124
  unfold tokc at hp
  rw [Bool.and_eq_true] at hp
  rw [B85_0_eq, lt_in hlt, ge_zero, hb, h32, h124, hp.1, hp.2, wrap_next hlt (by omega), cT, Bool.and_self, cT, cT, cT, cT]) (fun i h hp => by
  have hb : bt s (i : Int) = (((bs s)[i]'h).toNat : Int) := bt_eq s i (by omega)
  generalize (bs s)[i]'h = c at hb hp
  have hlt : i < s.size := by omega
  have h32 : (((c.toNat : Nat) : Int) == Int.ofNat 32) = (c == 32) := u8_beq c 32
  have h124 : (((c.toNat : Nat) : Int) == Int.ofNat 124) = (c == 124) := u8_beq c 124
  unfold tokc at hp
  rw [B85_0_eq, lt_in hlt, ge_zero, hb, h32, h124, cT, Bool.and_self, cT]
  cases h1 : (c == 32) with
  | true => rw [Bool.not_true, cF]
  | false =>
   rw [h1, Bool.not_false, Bool.true_and] at hp
   rw [hp, Bool.not_false, cT, cT, cF]) (by
  rw [B85_0_eq]
  rw [← hl, lt_out, cF]) j (by omega)
 obtain ⟨hn, _⟩ := nx_drop s j hj
 have hn' : nx ((bs s).drop j) = (bs s).drop j := by
  have : nx ((bs s).drop j) = (bs s).drop (fr s j) := hn
  rw [this, hf]
 have hw : wd ((bs s).drop j) = ((bs s).drop j).takeWhile tokc := by show (nx ((bs s).drop j)).takeWhile tokc = _; rw [hn']
 rw [this, obs]
 simp only
 have hb := bh_le s j hj
 have hbd : j + (((bs s).drop j).takeWhile tokc).length = bh s j := by show _ = fr s j + (wd ((bs s).drop j)).length; rw [hw, hf]
 have htk : ((bs s).drop j).takeWhile tokc = ((bs s).drop j).take (((bs s).drop j).takeWhile tokc).length := tw_take _ _
 rw [hbd]
 have e : (decide (Int.ofNat 0 ≤ (j : Int)) && (decide ((j : Int) ≤ ((bh s j : Nat) : Int)) && decide (((bh s j : Nat) : Int) ≤ Int.ofNat s.size))) = true := by
  rw [ge_zero, Bool.true_and, Bool.and_eq_true, decide_eq_true_eq, decide_eq_true_eq]
  exact ⟨by omega, by show _ ≤ (s.size : Int); omega⟩
 have e4 : s.extract (Int.toNat (j : Int)) (Int.toNat ((bh s j : Nat) : Int)) = lit (wd ((bs s).drop j)) := bs_inj (by
  rw [bs_extract, Int.toNat_natCast, Int.toNat_natCast, bs_lit, List.drop_take, ← hbd, show j + (((bs s).drop j).takeWhile tokc).length - j = (((bs s).drop j).takeWhile tokc).length by omega, ← htk, hw])
 rw [e, cT, F84_is s hs (bh s j) hb.2, obs, e4]
theorem item_nil : itemS [] = none := rfl
theorem item_dash (r : List UInt8) : itemS (45 :: r) = none := by
 unfold itemS
 rw [if_neg (by intro h; injection h with h _; exact absurd h (by decide))]
 have hw : wildS (45 :: r) = none := by
  unfold wildS wildOf
  rw [if_neg]
  ·rfl
  ·rintro ⟨h, _⟩
   injection h with h
   exact absurd h (by decide)
 rw [hw]
 show markS (45 :: r) = none
 unfold markS
 cases hv : verP (verOf (45 :: r)) with
 | none => rfl
 | some v =>
  rw [Option.bind_some]
  cases ho : opS (opOf (45 :: r)) (vOf v) with
  | none => rfl
  | some L =>
   exfalso
   have hm := opS_mem ho
   have he : opOf (45 :: r) = 45 :: r.takeWhile (fun x => !(x == 118)) := rfl
   rw [he] at hm
   have key : ∀ op ∈ opsL.map bs, op.head? ≠ some 45 := by decide
   exact key _ hm rfl
theorem btw_one {p q : Pt} (h : p < q) : btw p q = [spanP (p, q)] := by
 unfold btw
 rw [Pc.nf_nm (l := [(p, q)]) ⟨by simp, by simpa using h⟩]
 rfl
theorem lt_b1 (v : Ver) : ptV v < ptOf v true false := by
 have := lt_pt v v false true
 rw [lin_cmpV.self v] at this
 exact of_decide_eq_true this
theorem head_ver (v : Ver) : (btw (ptV v) (ptOf v true false))[0]? = some (spanP (ptV v, ptOf v true false)) := by
 rw [btw_one]
 ·rfl
 ·exact lt_b1 v
abbrev PR := List Span × Int × Bool × ByteArray × Int × Unit
def PartR (s : ByteArray) (a0 j : Nat) (e : PR) (g : List Span → List Span ⊕ Nat) : Prop :=
 (∃ rem x, rem ≤ s.size ∧ e = ([], ((s.size - rem : Nat) : Int), false, s, x, ()) ∧ ∀ out, g out = .inr rem) ∨
 (∃ acc' k, e = (acc', 0, true, s, ((k : Nat) : Int), ()) ∧ k ≤ s.size ∧ j ≤ k ∧ Nrm acc' ∧ Rng acc' ∧ acc'.length + 2 * a0 ≤ 2 * k + 1 ∧ fr s k = k ∧ wd ((bs s).drop k) = [] ∧ ∀ out, g out = goP (lex ((bs s).drop k)) out acc' .mid)
theorem at_head (s : ByteArray) (k : Nat) (hk : k < s.size) : ∃ c r, (bs s).drop k = c :: r ∧ bt s (k : Int) = ((c.toNat : Nat) : Int) := by
 have hl := bs_size s
 have h : k < (bs s).length := by omega
 exact ⟨(bs s)[k]'h, (bs s).drop (k + 1), List.drop_eq_getElem_cons h, bt_eq s k hk⟩
theorem wd_head {c : UInt8} {r l : List UInt8} (hl : l = c :: r) (hn : nx l = l) : (wd l = [] ↔ c = 124) ∧ c ≠ 32 ∧ (c ≠ 124 → ∃ m, wd l = c :: m) := by
 have h32 : c ≠ 32 := nx_head (l := l) (r := r) (by rw [hn, hl])
 have hw : wd l = (c :: r).takeWhile tokc := by show (nx l).takeWhile tokc = _; rw [hn, hl]
 by_cases h : c = 124
 ·subst h
  refine ⟨⟨fun _ => rfl, fun _ => by rw [hw]; rfl⟩, h32, fun h => absurd rfl h⟩
 ·have ht : tokc c = true := by
   unfold tokc
   rw [Bool.and_eq_true, Bool.not_eq_true', Bool.not_eq_true', ← Bool.not_eq_true, ← Bool.not_eq_true, beq_iff_eq, beq_iff_eq]
   exact ⟨h32, h⟩
  have h2 : wd l = c :: r.takeWhile tokc := by rw [hw, List.takeWhile_cons, if_pos ht]
  refine ⟨⟨(fun h3 => by rw [h2] at h3; cases h3), fun h3 => absurd h3 h⟩, h32, fun _ => ⟨_, h2⟩⟩
end Go.Vx.Z
/-! The document's Parse, whole. -/
namespace Go.Vx.Z
open Go Go.Vx
set_option linter.unusedVariables false
set_option maxRecDepth 100000
noncomputable def wordB (acc : List Span) (n : Int) (s : ByteArray) (p : Int) : Option ((List Span × Int × ByteArray × Int × Unit) ⊕ PR) :=
 Option.bind (F85 (s, p, ())) fun r => Option.bind (F86 (r.1, ())) fun r_1 => bif !r_1.2.2.1 then some (Sum.inr ([], r.2.1, false, r.2.2.1, r.2.2.2.1, ())) else bif r_1.2.1 then bif decide (r.2.2.2.1 < Int.ofNat (ByteArray.size r.2.2.1)) then bif decide (Int.ofNat 0 ≤ r.2.2.2.1) && decide (r.2.2.2.1 < Int.ofNat (ByteArray.size r.2.2.1)) then bif bt r.2.2.1 r.2.2.2.1 == Int.ofNat 45 then Option.bind (F85 (r.2.2.1, r.2.2.2.1, ())) fun r => Option.bind (F85 (r.2.2.1, r.2.2.2.1, ())) fun r_2 => Option.bind (F37 (r_2.1, ())) fun r_3 => bif !bl r.1 == [45] then some (Sum.inr ([], r.2.1, false, r_2.2.2.1, r_2.2.2.2.1, ())) else bif !r_3.2.2.2.2.1 then some (Sum.inr ([], r_2.2.1, false, r_2.2.2.1, r_2.2.2.2.1, ())) else Option.bind r_1.1[0]? fun y => Option.bind (F36 ([(y.1, y.2.1, y.2.2.1, y.2.2.2.1, r_3.1, r_3.2.1, r_3.2.2.1, r_3.2.2.2.1, false, true, false, ())], ())) fun r => Option.bind (F20 (acc, r.1, ())) fun r => some (Sum.inl (r.1, IntKind.wrap IntKind.i64 (n + Int.ofNat 1), r_2.2.2.1, r_2.2.2.2.1, ())) else Option.bind (F20 (acc, r_1.1, ())) fun r_2 => some (Sum.inl (r_2.1, IntKind.wrap IntKind.i64 (n + Int.ofNat 1), r.2.2.1, r.2.2.2.1, ())) else none else Option.bind (F20 (acc, r_1.1, ())) fun r_2 => some (Sum.inl (r_2.1, IntKind.wrap IntKind.i64 (n + Int.ofNat 1), r.2.2.1, r.2.2.2.1, ())) else Option.bind (F20 (acc, r_1.1, ())) fun r_2 => some (Sum.inl (r_2.1, IntKind.wrap IntKind.i64 (n + Int.ofNat 1), r.2.2.1, r.2.2.2.1, ()))
theorem wordB_eq (acc : List Span) (n : Int) (s : ByteArray) (p : Int) : wordB acc n s p =
 Option.bind (F85 (s, p, ())) fun r => Option.bind (F86 (r.1, ())) fun r_1 => bif !r_1.2.2.1 then some (Sum.inr ([], r.2.1, false, r.2.2.1, r.2.2.2.1, ())) else bif r_1.2.1 then bif decide (r.2.2.2.1 < Int.ofNat (ByteArray.size r.2.2.1)) then bif decide (Int.ofNat 0 ≤ r.2.2.2.1) && decide (r.2.2.2.1 < Int.ofNat (ByteArray.size r.2.2.1)) then bif bt r.2.2.1 r.2.2.2.1 == Int.ofNat 45 then Option.bind (F85 (r.2.2.1, r.2.2.2.1, ())) fun r => Option.bind (F85 (r.2.2.1, r.2.2.2.1, ())) fun r_2 => Option.bind (F37 (r_2.1, ())) fun r_3 => bif !bl r.1 == [45] then some (Sum.inr ([], r.2.1, false, r_2.2.2.1, r_2.2.2.2.1, ())) else bif !r_3.2.2.2.2.1 then some (Sum.inr ([], r_2.2.1, false, r_2.2.2.1, r_2.2.2.2.1, ())) else Option.bind r_1.1[0]? fun y => Option.bind (F36 ([(y.1, y.2.1, y.2.2.1, y.2.2.2.1, r_3.1, r_3.2.1, r_3.2.2.1, r_3.2.2.2.1, false, true, false, ())], ())) fun r => Option.bind (F20 (acc, r.1, ())) fun r => some (Sum.inl (r.1, IntKind.wrap IntKind.i64 (n + Int.ofNat 1), r_2.2.2.1, r_2.2.2.2.1, ())) else Option.bind (F20 (acc, r_1.1, ())) fun r_2 => some (Sum.inl (r_2.1, IntKind.wrap IntKind.i64 (n + Int.ofNat 1), r.2.2.1, r.2.2.2.1, ())) else none else Option.bind (F20 (acc, r_1.1, ())) fun r_2 => some (Sum.inl (r_2.1, IntKind.wrap IntKind.i64 (n + Int.ofNat 1), r.2.2.1, r.2.2.2.1, ())) else Option.bind (F20 (acc, r_1.1, ())) fun r_2 => some (Sum.inl (r_2.1, IntKind.wrap IntKind.i64 (n + Int.ofNat 1), r.2.2.1, r.2.2.2.1, ())) := rfl
theorem B53_eq (acc : List Span) (n : Int) (s : ByteArray) (p : Int) : B53_0 (acc, n, s, p, ()) = bif decide (n > Int.ofNat 0) then bif decide (p ≥ Int.ofNat (ByteArray.size s)) then some (Sum.inr (acc, Int.ofNat 0, true, s, p, ())) else bif decide (Int.ofNat 0 ≤ p) && decide (p < Int.ofNat (ByteArray.size s)) then bif bt s p == Int.ofNat 124 then some (Sum.inr (acc, Int.ofNat 0, true, s, p, ())) else wordB acc n s p else none else wordB acc n s p := by
 rw [B53_0_eq]
 rfl
theorem word_is (s : ByteArray) (hs : s.size ≤ 400000) (a0 j : Nat) (hj : j ≤ s.size) (hf : fr s j = j) (acc : List Span) (n : Nat) (hnj : n ≤ j) (hn : Nrm acc) (hr : Rng acc) (hlen : acc.length + 2 * a0 ≤ 2 * j + 1) :
  (∃ rem x, rem ≤ s.size ∧ wordB acc (n : Int) s (j : Int) = some (.inr ([], ((s.size - rem : Nat) : Int), false, s, x, ())) ∧ (∀ out, goP (lex ((bs s).drop j)) out acc .start = .inr rem) ∧ (wd ((bs s).drop j) ≠ [] → ∀ out, goP (lex ((bs s).drop j)) out acc .mid = .inr rem)) ∨
  (wd ((bs s).drop j) ≠ [] ∧ ∃ acc' k, wordB acc (n : Int) s (j : Int) = some (.inl (acc', ((n + 1 : Nat) : Int), s, ((k : Nat) : Int), ())) ∧ k ≤ s.size ∧ j < k ∧ Nrm acc' ∧ Rng acc' ∧ acc'.length + 2 * a0 ≤ 2 * k + 1 ∧ fr s k = k ∧ ∀ out, goP (lex ((bs s).drop j)) out acc .mid = goP (lex ((bs s).drop k)) out acc' .mid) := by
 have hl := bs_size s
 have hb := bh_le s j hj
 have h85 := F85_is s (by omega) j hj hf
 have hwl : (wd ((bs s).drop j)).length ≤ s.size := by
  have : bh s j = fr s j + (wd ((bs s).drop j)).length := rfl
  omega
 have h86 := F86_is (lit (wd ((bs s).drop j))) (by show (wd ((bs s).drop j)).length ≤ _; omega)
 rw [bs_lit] at h86
 have hW := wordB_eq acc (n : Int) s (j : Int)
 rw [h85, obs, h86, obs] at hW
 simp only at hW
 have hf2 := fr_le s (bh s j) hb.2
 obtain ⟨_, _, x3, x4⟩ := fr_fix s (bh s j) hb.2
 have hwn : IntKind.wrap IntKind.i64 ((n : Int) + Int.ofNat 1) = ((n + 1 : Nat) : Int) := wrap64s n (by omega)
 by_cases hw : wd ((bs s).drop j) = []
 ·left
  rw [hw, item_nil] at hW
  refine ⟨s.size - j, ((fr s (bh s j) : Nat) : Int), Nat.sub_le _ _, ?_, fun out => ?_, fun h => absurd hw h⟩
  ·rw [show s.size - (s.size - j) = j by omega]
   rw [hW]
   rfl
  ·have := stop_start s j hj hw out acc
   rw [hf] at this
   exact this
 obtain ⟨l1, l2⟩ := lex_word s j hj hw
 rw [hf] at l1
 cases hi : itemS (wd ((bs s).drop j)) with
 | none =>
  left
  rw [hi] at hW
  refine ⟨s.size - j, ((fr s (bh s j) : Nat) : Int), Nat.sub_le _ _, ?_, fun out => ?_, fun _ out => ?_⟩
  ·rw [show s.size - (s.size - j) = j by omega]
   rw [hW]
   rfl
  ·rw [l1, go_start, go_mid, hi]
  ·rw [l1, go_mid, hi]
 | some L =>
  obtain ⟨i1, i2, i3⟩ := item_ok hi
  obtain ⟨_, f2, f3, _, f5⟩ := andS_says hn i1 hr (by omega) (by omega)
  have f1 := randS hn i1 hr i2 (by omega) (by omega)
  rw [hi] at hW
  simp only [Bool.not_true, cF] at hW
  have hend : ∀ (X : Option ((List Span × Int × ByteArray × Int × Unit) ⊕ PR)), X = some (.inl (andS acc L, ((n + 1 : Nat) : Int), s, ((fr s (bh s j) : Nat) : Int), ())) → (∀ out, goP (lex ((bs s).drop j)) out acc .mid = goP (lex ((bs s).drop (fr s (bh s j)))) out (andS acc L) .mid) →
    (wd ((bs s).drop j) ≠ [] ∧ ∃ acc' k, X = some (.inl (acc', ((n + 1 : Nat) : Int), s, ((k : Nat) : Int), ())) ∧ k ≤ s.size ∧ j < k ∧ Nrm acc' ∧ Rng acc' ∧ acc'.length + 2 * a0 ≤ 2 * k + 1 ∧ fr s k = k ∧ ∀ out, goP (lex ((bs s).drop j)) out acc .mid = goP (lex ((bs s).drop k)) out acc' .mid) :=
   fun X hX hg => ⟨hw, andS acc L, fr s (bh s j), hX, hf2.2, by omega, f2, f3, by omega, x4, hg⟩
  cases hv : verP (wd ((bs s).drop j)) with
  | none =>
   right
   refine hend _ ?_ fun out => by rw [l1, go_mid, hi, hv, x3]
   rw [hv] at hW
   rw [hW]
   simp only [Option.isSome_none, cF]
   rw [f1, obs, hwn]
  | some v =>
   rw [hv] at hW
   simp only [Option.isSome_some, cT] at hW
   have hgo : ∀ out, goP (lex ((bs s).drop j)) out acc .mid = goP (lex ((bs s).drop (fr s (bh s j)))) out acc (.plain v L) := fun out => by rw [l1, go_mid, hi, hv, x3]
   have hgs : ∀ out, goP (lex ((bs s).drop j)) out acc .start = goP (lex ((bs s).drop (fr s (bh s j)))) out acc (.plain v L) := fun out => by rw [l1, go_start, ← l1, hgo]
   generalize hk : fr s (bh s j) = k at *
   by_cases hks : k < s.size
   ·obtain ⟨c, r, c1, c2⟩ := at_head s k hks
    have hnk : nx ((bs s).drop k) = (bs s).drop k := by
     have := (nx_drop s k hf2.2).1
     have h2 : nx ((bs s).drop k) = (bs s).drop (fr s k) := this
     rw [h2, x4]
    have h45 : (((c.toNat : Nat) : Int) == Int.ofNat 45) = (c == 45) := u8_beq c 45
    rw [lt_in hks, ge_zero, c2, h45, cT, Bool.and_self, cT] at hW
    obtain ⟨w1, w2, w3⟩ := wd_head c1 hnk
    by_cases hc : c = 45
    ·subst hc
     obtain ⟨m, hm⟩ := w3 (by decide)
     have hwk : wd ((bs s).drop k) ≠ [] := by rw [hm]; simp
     have h85b := F85_is s (by omega) k hf2.2 x4
     have hb2 := bh_le s k hf2.2
     have hf3 := fr_le s (bh s k) hb2.2
     obtain ⟨_, _, y3, y4⟩ := fr_fix s (bh s k) hb2.2
     have h85c := F85_is s (by omega) (fr s (bh s k)) hf3.2 y4
     obtain ⟨m1, m2⟩ := lex_word s k hf2.2 hwk
     rw [x4] at m1
     rw [show ((45 : UInt8) == 45) = true from rfl, cT, h85b, obs] at hW
     simp only at hW
     rw [h85c, obs] at hW
     simp only at hW
     have hb3 := bh_le s (fr s (bh s k)) hf3.2
     have hf4 := fr_le s (bh s (fr s (bh s k))) hb3.2
     obtain ⟨_, _, z3, z4⟩ := fr_fix s (bh s (fr s (bh s k))) hb3.2
     have hwl2 : (wd ((bs s).drop (fr s (bh s k)))).length ≤ s.size := by
      have : bh s (fr s (bh s k)) = fr s (fr s (bh s k)) + (wd ((bs s).drop (fr s (bh s k)))).length := rfl
      omega
     have h37 := F37_is (lit (wd ((bs s).drop (fr s (bh s k))))) (by show (wd ((bs s).drop (fr s (bh s k)))).length ≤ _; omega)
     rw [bs_lit] at h37
     rw [h37, obs, bs_toList, bs_lit] at hW
     by_cases hd : wd ((bs s).drop k) = [45]
     ·rw [hd, show (([45] : List UInt8) == [45]) = true from rfl, Bool.not_true, cF] at hW
      have hgd : ∀ out, goP (lex ((bs s).drop k)) out acc (.plain v L) = goP (lex ((bs s).drop (fr s (bh s k)))) out acc (.dash v) := fun out => by rw [m1, go_plain, if_pos hd, y3]
      unfold verR at hW
      cases hv2 : verP (wd ((bs s).drop (fr s (bh s k)))) with
      | none =>
       left
       rw [hv2] at hW
       have hq : ∀ out, goP (lex ((bs s).drop (fr s (bh s k)))) out acc (.dash v) = .inr (s.size - fr s (bh s k)) := fun out => by
        by_cases h0 : wd ((bs s).drop (fr s (bh s k))) = []
        ·have := stop_dash s (fr s (bh s k)) hf3.2 h0 out acc v
         rw [y4] at this
         exact this
        ·obtain ⟨q1, _⟩ := lex_word s (fr s (bh s k)) hf3.2 h0
         rw [y4] at q1
         rw [q1, go_dash, hv2]
       refine ⟨s.size - fr s (bh s k), ((fr s (bh s (fr s (bh s k))) : Nat) : Int), Nat.sub_le _ _, ?_, fun out => by rw [hgs, hgd, hq], fun _ out => by rw [hgo, hgd, hq]⟩
       rw [show s.size - (s.size - fr s (bh s k)) = fr s (bh s k) by omega]
       rw [hW]
       rfl
      | some y =>
       right
       rw [hv2] at hW
       have hov := (verP_ok hv).1
       have hoy := (verP_ok hv2).1
       have hL : L = btw (ptV (vOf v)) (ptOf (vOf v) true false) := by
        have := item_ver hv
        rw [hi] at this
        exact Option.some.inj this
       have h0 : L[0]? = some (spanP (ptV (vOf v), ptOf (vOf v) true false)) := by rw [hL]; exact head_ver (vOf v)
       have hw2 : wd ((bs s).drop (fr s (bh s k))) ≠ [] := fun h => by rw [h] at hv2; cases hv2
       obtain ⟨q1, q2⟩ := lex_word s (fr s (bh s k)) hf3.2 hw2
       obtain ⟨b1, b2, b3⟩ := btw_ver hov hoy
       obtain ⟨_, g2, g3, _, g5⟩ := andS_says hn b1 hr (by omega) (by omega)
       have g1 := randS hn b1 hr b2 (by omega) (by omega)
       have h36 : F36 ([((spanP (ptV (vOf v), ptOf (vOf v) true false)).1, (spanP (ptV (vOf v), ptOf (vOf v) true false)).2.1, (spanP (ptV (vOf v), ptOf (vOf v) true false)).2.2.1, (spanP (ptV (vOf v), ptOf (vOf v) true false)).2.2.2.1, (y.1 : Int), (y.2.1 : Int), (y.2.2.1 : Int), lit y.2.2.2, false, true, false, ())], ()) = some (btw (ptV (vOf v)) (ptOf (vOf y) true false), ()) := F36_mk (vOf v) (vOf y) false true false (vOk_V hov) (vOk_V hoy)
       simp only [Bool.not_true, cF] at hW
       rw [h0, obs, h36, obs] at hW
       simp only at hW
       rw [g1, obs, hwn] at hW
       refine ⟨hw, andS acc (btw (ptV (vOf v)) (ptOf (vOf y) true false)), fr s (bh s (fr s (bh s k))), hW, hf4.2, by omega, g2, g3, by omega, z4, fun out => ?_⟩
       rw [hgo, hgd, q1, go_dash, hv2, z3]
     ·left
      rw [show (wd ((bs s).drop k) == [45]) = false by simpa using hd, Bool.not_false, cT] at hW
      have hq : ∀ out, goP (lex ((bs s).drop k)) out acc (.plain v L) = .inr (s.size - k) := fun out => by
       rw [plain_mid s k hf2.2 hd, m1, go_mid, hm, item_dash]
      refine ⟨s.size - k, ((fr s (bh s (fr s (bh s k))) : Nat) : Int), Nat.sub_le _ _, ?_, fun out => by rw [hgs, hq], fun _ out => by rw [hgo, hq]⟩
      rw [show s.size - (s.size - k) = k by omega]
      exact hW
    ·right
     rw [show (c == 45) = false by simpa using hc, cF, f1, obs, hwn] at hW
     refine ⟨hw, andS acc L, k, hW, hf2.2, by omega, f2, f3, by omega, x4, fun out => ?_⟩
     rw [hgo, plain_mid s k hf2.2]
     intro h
     by_cases h124 : c = 124
     ·rw [w1.2 h124] at h; cases h
     ·obtain ⟨m, hm⟩ := w3 h124
      rw [hm] at h
      injection h with h _
      exact hc h
   ·right
    rw [show decide (((k : Nat) : Int) < Int.ofNat s.size) = false from decide_eq_false (by show ¬ ((k : Nat) : Int) < (s.size : Int); omega), cF, f1, obs, hwn] at hW
    refine ⟨hw, andS acc L, k, hW, hf2.2, by omega, f2, f3, by omega, x4, fun out => ?_⟩
    rw [hgo, plain_mid s k hf2.2]
    have : k = s.size := by omega
    rw [this, hl, List.drop_length]
    exact fun h => by cases h
end Go.Vx.Z
/-! The document's Parse: parts, all. -/
namespace Go.Vx.Z
open Go Go.Vx
set_option linter.unusedVariables false
set_option maxRecDepth 100000
theorem ge_size {k n : Nat} (h : n ≤ k) : decide (((k : Nat) : Int) ≥ Int.ofNat n) = true := decide_eq_true (by show (n : Int) ≤ k; omega)
theorem nge_size {k n : Nat} (h : k < n) : decide (((k : Nat) : Int) ≥ Int.ofNat n) = false := decide_eq_false (by show ¬ (n : Int) ≤ k; omega)
theorem loopR_is (s : ByteArray) (hs : s.size ≤ 400000) (a0 : Nat) : ∀ (N j n : Nat) (acc : List Span), s.size - j ≤ N → j ≤ s.size → fr s j = j → 0 < n → n ≤ j → Nrm acc → Rng acc → acc.length + 2 * a0 ≤ 2 * j + 1 →
  ∃ e : PR, loop B53_0 (acc, (n : Int), s, (j : Int), ()) = some e ∧ PartR s a0 j e (fun out => goP (lex ((bs s).drop j)) out acc .mid) := by
 intro N
 induction N with
 | zero =>
  intro j n acc hN hj hf h0 hnj hn hr hlen
  have hB := B53_eq acc (n : Int) s (j : Int)
  rw [show decide ((n : Int) > Int.ofNat 0) = true from decide_eq_true (by show (0 : Int) < n; omega), cT, ge_size (by omega), cT] at hB
  have hw : wd ((bs s).drop j) = [] := by
   have : j = s.size := by omega
   rw [this, bs_size, List.drop_length]
   rfl
  exact ⟨_, loop_end hB, .inr ⟨acc, j, rfl, hj, Nat.le_refl _, hn, hr, hlen, hf, hw, fun out => rfl⟩⟩
 | succ N ih =>
  intro j n acc hN hj hf h0 hnj hn hr hlen
  have hB := B53_eq acc (n : Int) s (j : Int)
  rw [show decide ((n : Int) > Int.ofNat 0) = true from decide_eq_true (by show (0 : Int) < n; omega), cT] at hB
  by_cases hjs : s.size ≤ j
  ·rw [ge_size hjs, cT] at hB
   have hw : wd ((bs s).drop j) = [] := by
    have : j = s.size := by omega
    rw [this, bs_size, List.drop_length]
    rfl
   exact ⟨_, loop_end hB, .inr ⟨acc, j, rfl, hj, Nat.le_refl _, hn, hr, hlen, hf, hw, fun out => rfl⟩⟩
  ·have hjl : j < s.size := by omega
   obtain ⟨c, r, c1, c2⟩ := at_head s j hjl
   have hnk : nx ((bs s).drop j) = (bs s).drop j := by
    have h2 : nx ((bs s).drop j) = (bs s).drop (fr s j) := (nx_drop s j hj).1
    rw [h2, hf]
   obtain ⟨w1, w2, w3⟩ := wd_head c1 hnk
   have h124 : (((c.toNat : Nat) : Int) == Int.ofNat 124) = (c == 124) := u8_beq c 124
   rw [nge_size hjl, cF, ge_zero, lt_in hjl, Bool.and_self, cT, c2, h124] at hB
   by_cases hc : c = 124
   ·rw [show (c == 124) = true by simpa using hc, cT] at hB
    exact ⟨_, loop_end hB, .inr ⟨acc, j, rfl, hj, Nat.le_refl _, hn, hr, hlen, hf, w1.2 hc, fun out => rfl⟩⟩
   ·rw [show (c == 124) = false by simpa using hc, cF] at hB
    have hw : wd ((bs s).drop j) ≠ [] := fun h => hc (w1.1 h)
    rcases word_is s hs a0 j hj hf acc n hnj hn hr hlen with ⟨rem, x, q1, q2, q3, q4⟩ | ⟨q1, acc', k, q2, q3, q4, q5, q6, q7, q8, q9⟩
    ·rw [q2] at hB
     exact ⟨_, loop_end hB, .inl ⟨rem, x, q1, rfl, fun out => q4 hw out⟩⟩
    ·rw [q2] at hB
     obtain ⟨e, e1, e2⟩ := ih k (n + 1) acc' (by omega) q3 q8 (by omega) (by omega) q5 q6 q7
     refine ⟨e, loop_step hB e1, ?_⟩
     rcases e2 with ⟨rem, x, p1, p2, p3⟩ | ⟨a2, k2, p1, p2, p3, p4, p5, p6, p7, p8, p9⟩
     ·exact .inl ⟨rem, x, p1, p2, fun out => (q9 out).trans (p3 out)⟩
     ·exact .inr ⟨a2, k2, p1, p2, by omega, p4, p5, p6, p7, p8, fun out => (q9 out).trans (p9 out)⟩
theorem F53_is (s : ByteArray) (hs : s.size ≤ 400000) (j : Nat) (hj : j ≤ s.size) : ∃ e : PR, F53 (s, (j : Int), ()) = some (e.1, e.2.1, e.2.2.1, e.2.2.2.1, e.2.2.2.2.1, ()) ∧ PartR s j j e (fun out => goP (lex ((bs s).drop j)) out allS .start) := by
 have hf := fr_le s j hj
 obtain ⟨_, x2, x3, x4⟩ := fr_fix s j hj
 have hF := F53_eq s (j : Int)
 rw [F22_nil, obs, F84_is s (by omega) j hj, obs] at hF
 simp only at hF
 have hB := B53_eq allS (Int.ofNat 0) s ((fr s j : Nat) : Int)
 rw [show decide (Int.ofNat 0 > Int.ofNat 0) = false from rfl, cF] at hB
 rcases word_is s hs j (fr s j) hf.2 x4 allS 0 (Nat.zero_le _) allS_says.1 allS_says.2.1 (by show 1 + 2 * j ≤ _; omega) with ⟨rem, x, q1, q2, q3, q4⟩ | ⟨q1, acc', k, q2, q3, q4, q5, q6, q7, q8, q9⟩
 ·have q2' : wordB allS (Int.ofNat 0) s ((fr s j : Nat) : Int) = _ := q2
  rw [q2'] at hB
  rw [loop_end hB, obs] at hF
  exact ⟨_, hF, .inl ⟨rem, x, q1, rfl, fun out => by rw [← x3]; exact q3 out⟩⟩
 ·have q2' : wordB allS (Int.ofNat 0) s ((fr s j : Nat) : Int) = _ := q2
  rw [q2'] at hB
  obtain ⟨e, e1, e2⟩ := loopR_is s hs j s.size k (0 + 1) acc' (by omega) q3 q8 (by omega) (by omega) q5 q6 q7
  rw [loop_step hB e1, obs] at hF
  refine ⟨e, hF, ?_⟩
  have hg : ∀ out, goP (lex ((bs s).drop j)) out allS .start = goP (lex ((bs s).drop k)) out acc' .mid := fun out => by
   obtain ⟨l1, _⟩ := lex_word s (fr s j) hf.2 q1
   rw [← x3, l1, go_start, ← l1, q9]
  rcases e2 with ⟨rem, x, p1, p2, p3⟩ | ⟨a2, k2, p1, p2, p3, p4, p5, p6, p7, p8, p9⟩
  ·exact .inl ⟨rem, x, p1, p2, fun out => (hg out).trans (p3 out)⟩
  ·exact .inr ⟨a2, k2, p1, p2, by omega, p4, p5, p6, p7, p8, fun out => (hg out).trans (p9 out)⟩
theorem allR_is (s : ByteArray) (hs : s.size ≤ 400000) : ∀ (N j : Nat) (out : List Span), s.size - j ≤ N → j ≤ s.size → Nrm out → Rng out → out.length ≤ 2 * j →
  loop B31_0 (s, out, s, (j : Int), ()) = some (parR s.size (goP (lex ((bs s).drop j)) out allS .start)) := by
 have hl := bs_size s
 have step : ∀ (j : Nat) (out : List Span), j ≤ s.size → Nrm out → Rng out → out.length ≤ 2 * j → (∀ (j' : Nat) (out' : List Span), j < j' → j' ≤ s.size → Nrm out' → Rng out' → out'.length ≤ 2 * j' → loop B31_0 (s, out', s, (j' : Int), ()) = some (parR s.size (goP (lex ((bs s).drop j')) out' allS .start))) →
   loop B31_0 (s, out, s, (j : Int), ()) = some (parR s.size (goP (lex ((bs s).drop j)) out allS .start)) := by
  intro j out hj hn hr hlen ih
  have hB := B31_0_eq s out s (j : Int)
  obtain ⟨e, e1, e2⟩ := F53_is s hs j hj
  rw [e1, obs] at hB
  rcases e2 with ⟨rem, x, p1, p2, p3⟩ | ⟨acc', k, p1, p2, p3, p4, p5, p6, p7, p8, p9⟩
  ·rw [p2] at hB
   simp only [Bool.not_false, cT] at hB
   have p3' : goP (lex ((bs s).drop j)) out allS .start = .inr rem := p3 out
   rw [p3']
   exact loop_end hB
  ·rw [p1] at hB
   have p9' : goP (lex ((bs s).drop j)) out allS .start = goP (lex ((bs s).drop k)) out acc' .mid := p9 out
   rw [p9']
   obtain ⟨_, f2, f3, _, f5⟩ := orS_says hn p4 hr p5 (by omega)
   have f1 := rorS hn p4 hr p5 (by omega)
   simp only [Bool.not_true, cF] at hB
   rw [f1, obs] at hB
   have hw1 : IntKind.wrap IntKind.i64 (((k : Nat) : Int) + Int.ofNat 1) = ((k + 1 : Nat) : Int) := wrap64s k (by omega)
   rw [hw1] at hB
   rcases lex_stop s k p2 p8 with ⟨h1, h2⟩ | ⟨h1, h2, h3⟩ | ⟨h1, h2, h3⟩
   ·rw [p7] at h2
    rw [ge_size (by omega), cT] at hB
    rw [h1]
    exact loop_end hB
   ·rw [p7] at h1 h2 h3
    rw [nge_size h2, cF] at hB
    rw [h1]
    have hres : B31_0 (s, out, s, (j : Int), ()) = some (.inr ([], ((k + 1 : Nat) : Int), Int.ofNat 6, ())) := by
     rw [hB]
     by_cases hk1 : s.size ≤ k + 1
     ·rw [ge_size hk1, cT]
     ·have hk2 : k + 1 < s.size := by omega
      obtain ⟨c, r, c1, c2⟩ := at_head s (k + 1) hk2
      have h124 : (((c.toNat : Nat) : Int) == Int.ofNat 124) = (c == 124) := u8_beq c 124
      rw [nge_size hk2, cF, ge_zero, lt_in hk2, Bool.and_self, cT, c2, h124]
      by_cases hc : c = 124
      ·exfalso
       have hnk : nx ((bs s).drop k) = (bs s).drop k := by
        have h2 : nx ((bs s).drop k) = (bs s).drop (fr s k) := (nx_drop s k p2).1
        rw [h2, p7]
       obtain ⟨c', r', d1, d2⟩ := at_head s k h2
       obtain ⟨w1, _, _⟩ := wd_head d1 hnk
       have hc' := w1.1 p8
       have hr' : r' = (bs s).drop (k + 1) := by
        have := congrArg (List.drop 1) d1
        rw [List.drop_drop] at this
        exact this.symm
       exact h3 ⟨r, by rw [d1, hr', c1, hc', hc]; rfl⟩
      ·rw [show (c == 124) = false by simpa using hc, Bool.not_false, cT]
    have hend := loop_end hres
    rw [hend]
    show some ([], ((k + 1 : Nat) : Int), Int.ofNat 6, ()) = some ([], ((s.size - (s.size - k - 1) : Nat) : Int), 6, ())
    rw [show s.size - (s.size - k - 1) = k + 1 by omega]
    rfl
   ·rw [p7] at h1 h2 h3
    obtain ⟨t, ht⟩ := h3
    have hk2 : k + 1 < s.size := by omega
    obtain ⟨c, r, c1, c2⟩ := at_head s (k + 1) hk2
    have hc : c = 124 := by
     have := congrArg (List.drop 1) ht
     rw [List.drop_drop, c1] at this
     injection this with h _
     exact h.symm
    have h124 : (((c.toNat : Nat) : Int) == Int.ofNat 124) = (c == 124) := u8_beq c 124
    have hw2 : IntKind.wrap IntKind.i64 (((k : Nat) : Int) + Int.ofNat 2) = ((k + 2 : Nat) : Int) := by
     show IntKind.wrap IntKind.i64 ((k : Int) + 2) = _
     rw [wrap64 (by omega) (by omega)]; omega
    rw [nge_size (by omega), cF, nge_size hk2, cF, ge_zero, lt_in hk2, Bool.and_self, cT, c2, h124, show (c == 124) = true by simpa using hc, Bool.not_true, cF, hw2] at hB
    rw [h1]
    exact loop_step hB (ih (k + 2) (orS out acc') (by omega) h2 f2 f3 (by omega))
 intro N
 induction N with
 | zero =>
  intro j out hN hj hn hr hlen
  exact step j out hj hn hr hlen (fun j' out' h1 h2 => by omega)
 | succ N ih =>
  intro j out hN hj hn hr hlen
  exact step j out hj hn hr hlen (fun j' out' h1 h2 h3 h4 h5 => ih j' out' (by omega) h2 h3 h4 h5)
theorem F31_is (s : ByteArray) (hs : s.size ≤ 400000) : F31 (s, ()) = some (parR s.size (goP (lex (bs s)) [] allS .start)) := by
 have h := allR_is s hs s.size 0 [] (by omega) (Nat.zero_le _) nrm_nil.1 nrm_nil.2 (Nat.zero_le _)
 rw [List.drop_zero] at h
 rw [F31_eq]
 have h' : loop B31_0 (s, [], s, Int.ofNat 0, ()) = _ := h
 rw [h', obs]
end Go.Vx.Z
/-! Any text: the program's Parse is the document's. -/
namespace Go.Vx.Z
open Go Go.Vx
set_option linter.unusedVariables false
set_option maxRecDepth 100000
theorem any_all (s : ByteArray) (hs : s.size ≤ 1000000000) : AnyOk s := by
 intro k hk
 have hl := bs_size s
 have hb : bs (s.extract k s.size) = (bs s).drop k := by rw [bs_extract, hl, List.take_length]
 unfold FIndexAny
 have h2 : (s.extract k s.size).size ≤ 1000000000 := by rw [bs_size, hb, List.length_drop]; omega
 have e : (decide ((s.extract k s.size).size < 4294967281) && (decide (2 ≤ (lit [32, 124]).size) && (decide ((lit [32, 124]).size < 4294967281) && (low (lit [32, 124]).data.toList && (decide (8 < (s.extract k s.size).size) || (low (s.extract k s.size).data.toList || (lit [32, 124]).data.toList == [32, 124])))))) = true := by
  rw [decide_eq_true (show (s.extract k s.size).size < 4294967281 by omega), show ((lit [32, 124]).data.toList == [32, 124]) = true from rfl, Bool.or_true, Bool.or_true]
  rfl
 simp only [e, cT]
 refine congrArg (fun z => some (z, ())) ?_
 show Lib.indexAny (bs (s.extract k s.size)) [32, 124] = _
 rw [hb, any_is]
theorem parse_any (s : ByteArray) (hs : s.size ≤ 400000) : ∃ R x n, F30 (s, ()) = some (R, x, n, ()) ∧ F31 (s, ()) = some (R, x, n, ()) ∧ R.length ≤ 1000000 := by
 have h := F30_is s hs (any_all s (by omega))
 have h2 := F31_is s hs
 generalize goP (lex (bs s)) [] allS .start = r at *
 cases r with
 | inl R => exact ⟨R, 0, 0, h.2, h2, by have := h.1.2.2; omega⟩
 | inr rem => exact ⟨[], _, _, h.2, h2, by simp⟩
end Go.Vx.Z
/-! Texts that are made, read. -/
namespace Go.Vx.Z
open Go Go.Vx
set_option linter.unusedVariables false
set_option maxRecDepth 100000
theorem num_dec {u : Nat} (h : u ≤ 999999) : numOf (Lib.decDigits u) = some u := by
 unfold numOf
 rw [if_neg, dec_num]
 rintro (h1 | h1 | ⟨h1, h2⟩ | h1)
 ·exact dec_ne u h1
 ·have := dec_len (u := u) 5 (by omega)
  omega
 ·cases hd : Lib.decDigits u with
  | nil => exact dec_ne u hd
  | cons c l =>
   rw [hd] at h1 h2
   have hl : l ≠ [] := fun h => by rw [h] at h1; simp at h1
   have := dec_head u c l hd hl
   injection h2 with h2
   exact this h2
 ·have : (Lib.decDigits u).all dig1 = true := List.all_eq_true.2 (dec_all u)
  rw [this] at h1
  cases h1
theorem split_jn : ∀ (ws : List (List UInt8)), ws ≠ [] → (∀ w ∈ ws, (46 : UInt8) ∉ w) → splitB 46 (jn ws) = ws
 | [], h, _ => absurd rfl h
 | [w], _, h => splitB_no 46 w (h w (by simp))
 | w :: v :: l, _, h => by
  rw [jn, splitB_yes 46 w _ (h w (by simp)), split_jn (v :: l) (by simp) fun u hu => h u (by simp [hu])]
theorem preW_ok : ∀ w ∈ preW, wordOk w = true ∧ (46 : UInt8) ∉ w := by decide
def vP (v : Ver) : PV := (v.1.toNat, v.2.1.toNat, v.2.2.1.toNat, bs v.2.2.2.1)
theorem vP_of {v : Ver} (h : okN v) : vOf (vP v) = v := by
 obtain ⟨h1, h2, h3, _⟩ := h
 obtain ⟨A, B, C, s, u⟩ := v
 simp only at h1 h2 h3
 show ((A.toNat : Int), (B.toNat : Int), (C.toNat : Int), lit (bs s), ()) = _
 rw [lit_bs, Int.toNat_of_nonneg h1.1, Int.toNat_of_nonneg h2.1, Int.toNat_of_nonneg h3.1]
theorem okPre_ok {s : ByteArray} {n : Nat} (h : okPre s n) (h40 : s.size ≤ 40) : preOk (bs s) = true := by
 obtain ⟨ws, _, h2, h3⟩ := h
 unfold preOk
 have hl := bs_size s
 rw [decide_eq_true (show (bs s).length ≤ 40 by omega), Bool.true_and]
 cases ws with
 | nil => rw [h3]; rfl
 | cons w l =>
  rw [h3, split_jn (w :: l) (by simp) fun u hu => (preW_ok u (h2 u hu)).2]
  have : (w :: l).all wordOk = true := List.all_eq_true.2 fun u hu => (preW_ok u (h2 u hu)).1
  rw [this, Bool.or_true]
theorem verP_text {v : Ver} (h : okMk v) : verP (verT v) = some (vP v) := by
 have hN := okMk_N h
 obtain ⟨h1, h2, h3, h4, n, hn, h5⟩ := h
 have hF : Form (Lib.decDigits v.1.toNat ++ 46 :: (Lib.decDigits v.2.1.toNat ++ 46 :: (Lib.decDigits v.2.2.1.toNat ++ (if bs v.2.2.2.1 = [] then [] else 45 :: bs v.2.2.2.1)))) (vP v) := by
  refine ⟨_, _, _, _, rfl, num_dec (by omega), num_dec (by omega), num_dec (by omega), ?_⟩
  by_cases hb : bs v.2.2.2.1 = []
  ·rw [if_pos hb]
   show some [] = some (bs v.2.2.2.1)
   rw [hb]
  ·rw [if_neg hb, tailP_cons, if_pos ⟨rfl, hb⟩]
   rfl
 have hS := scanV_iff.2 hF
 unfold verT
 rw [verP_cons, hS, Option.bind_some, if_pos]
 have e : ∀ A : Int, (0 ≤ A ∧ A ≤ 999999) → inN ((A.toNat : Nat) : Int) = true := fun A hA => by
  unfold inN
  rw [Bool.and_eq_true, decide_eq_true_eq, decide_eq_true_eq]
  omega
 unfold rightB
 show (inN ((v.1.toNat : Nat) : Int) && inN ((v.2.1.toNat : Nat) : Int) && inN ((v.2.2.1.toNat : Nat) : Int) && preOk (bs v.2.2.2.1)) = true
 rw [e _ h1, e _ h2, e _ h3, okPre_ok h5 h4]
 rfl
theorem item_op {op : List UInt8} {v : Ver} {L : List Span} (h : okMk v) (ho : opS op v = some L) : itemS (op ++ verT v) = some L := by
 have hmem := opS_mem ho
 have hv := verP_text h
 obtain ⟨r, hr⟩ : ∃ r, verT v = 118 :: r := ⟨_, rfl⟩
 have h42 : ¬ op ++ verT v = [42] := by
  intro h0
  cases op with
  | nil =>
   rw [List.nil_append, hr] at h0
   injection h0 with h0 _
   exact absurd h0 (by decide)
  | cons c l =>
   rw [hr] at h0
   have := congrArg List.length h0
   simp at this
 have hw : wildS (op ++ verT v) = none := by
  by_cases hop : op = []
  ·rw [hop, List.nil_append]
   cases hw : wildS (verT v) with
   | none => rfl
   | some M => rw [wild_ver hw] at hv; cases hv
  ·unfold wildS wildOf
   rw [if_neg]
   ·rfl
   ·rintro ⟨h1, _⟩
    cases op with
    | nil => exact hop rfl
    | cons c l =>
     injection h1 with h1
     have := op_no hmem c (by simp)
     rw [h1] at this
     exact absurd this (by decide)
 unfold itemS
 rw [if_neg h42, hw]
 show markS (op ++ verT v) = _
 have hs := tw_app (p := fun x => !(x == (118 : UInt8))) op (verT v) (op_no hmem) (fun c l h => by
  rw [hr] at h
  injection h with h _
  rw [← h]; rfl)
 have h1 : opOf (op ++ verT v) = op := hs.1
 have h2 : verOf (op ++ verT v) = verT v := hs.2
 unfold markS
 rw [h1, h2, hv, Option.bind_some, vP_of (okMk_N h), ho]
/-! one word -/
theorem nx_tok {u : List UInt8} {c : UInt8} {r x : List UInt8} (h : u = c :: r) (ht : ∀ d ∈ u, tokc d = true) : nx (u ++ x) = u ++ x := by
 have hc := ht c (by rw [h]; simp)
 have h32 : blk1 c = false := by
  unfold tokc at hc
  rw [Bool.and_eq_true, Bool.not_eq_true'] at hc
  exact hc.1
 subst h
 show (c :: (r ++ x)).dropWhile blk1 = _
 rw [List.dropWhile_cons, h32]
 rfl
theorem lex_app {u x : List UInt8} (hu : u ≠ []) (ht : ∀ d ∈ u, tokc d = true) (hx : ∀ c l, x = c :: l → tokc c = false) : lex (u ++ x) = .w u (u.length + x.length) :: lex x := by
 cases hc : u with
 | nil => exact absurd hc hu
 | cons c r =>
  have hn := nx_tok (x := x) hc ht
  rw [hc] at hn ht
  have h124 : c ≠ 124 := by
   intro h
   have := ht c (by simp)
   rw [h] at this
   exact absurd this (by decide)
  have hn' : nx ((c :: r) ++ x) = c :: (r ++ x) := hn
  obtain ⟨a1, a2⟩ := tw_app (p := tokc) (c :: r) x ht hx
  have a1' : (c :: (r ++ x)).takeWhile tokc = c :: r := a1
  have a2' : (c :: (r ++ x)).dropWhile tokc = x := a2
  rw [lex_w hn' h124, a1', a2']
  have : (r ++ x).length + 1 = (c :: r).length + x.length := by simp; omega
  rw [this]
theorem lex_blank (x : List UInt8) : lex (32 :: x) = lex x := by
 have h1 := lex_nx (32 :: x)
 have h2 : nx (32 :: x) = nx x := rfl
 rw [← h1, h2, lex_nx]
theorem tok_of {c : UInt8} (h : tokB c = true) : tokc c = true := by
 unfold tokB at h
 unfold tokc
 rw [Bool.not_eq_true', Bool.or_eq_false_iff, Bool.or_eq_false_iff, Bool.or_eq_false_iff, Bool.or_eq_false_iff] at h
 rw [h.1.2, h.2]
 rfl
theorem verT_c {v : Ver} (h : okMk v) : ∀ c ∈ verT v, tokc c = true := fun c hc => tok_of (verT_tok h c hc)
/-! what is bumped is more -/
end Go.Vx.Z
/-! SpanMeans -/
namespace Go.Vx.Z
open Go Go.Vx
set_option linter.unusedVariables false
set_option maxRecDepth 100000
def lowB (c : UInt8) : Bool := decide (c.toNat < 128)
theorem low_all {l : List UInt8} : low l = true ↔ ∀ c ∈ l, lowB c = true := by
 show l.all lowB = true ↔ _
 rw [List.all_eq_true]
theorem low_app {a b : List UInt8} (ha : low a = true) (hb : low b = true) : low (a ++ b) = true := by
 rw [low_all] at *
 intro c hc
 rcases List.mem_append.1 hc with h | h
 ·exact ha c h
 ·exact hb c h
theorem low_dec (u : Nat) : low (Lib.decDigits u) = true := low_all.2 fun c hc => by
 have := dig_lt (dec_all u c hc)
 exact decide_eq_true (by omega)
theorem low_jn : ∀ (ws : List (List UInt8)), (∀ w ∈ ws, w ∈ preW) → low (jn ws) = true
 | [], _ => rfl
 | [w], h => by
  have key : ∀ w ∈ preW, low w = true := by decide
  exact key w (h w (by simp))
 | w :: v :: l, h => by
  have key : ∀ w ∈ preW, low w = true := by decide
  rw [jn]
  exact low_app (key w (h w (by simp))) (low_app (a := [46]) (by decide) (low_jn (v :: l) fun u hu => h u (by simp [hu])))
theorem low_verT {v : Ver} (h : okMk v) : low (verT v) = true := by
 obtain ⟨_, _, _, _, n, _, ws, _, h2, h3⟩ := h
 unfold verT
 refine low_app (a := [118]) (by decide) (low_app (low_dec _) (low_app (a := [46]) (by decide) (low_app (low_dec _) (low_app (a := [46]) (by decide) (low_app (low_dec _) ?_)))))
 split
 ·rfl
 ·rw [h3]
  exact low_app (a := [45]) (by decide) (low_jn ws h2)
theorem ops_tok : ∀ op ∈ opsL.map bs, (∀ c ∈ op, tokc c = true) ∧ low op = true ∧ op.length ≤ 2 := by decide
end Go.Vx.Z
/-! Words that are made: what they say. -/
namespace Go.Vx.Z
open Go Go.Vx
set_option linter.unusedVariables false
set_option maxRecDepth 100000
def Bnd (x : List UInt8) : Prop := ∀ c l, x = c :: l → tokc c = false
def fin_ (acc : List Span) (st : St) : List Span := match st with
 | .plain _ L => andS acc L
 | _ => acc
def notDash (st : St) : Prop := match st with
 | .dash _ => False
 | _ => True
def past (st : St) : Prop := match st with
 | .mid => True
 | .plain _ _ => True
 | _ => False
def OkA (n : Nat) (acc : List Span) (st : St) : Prop := Nrm acc ∧ Rng acc ∧ acc.length ≤ n ∧ (∀ v L, st = .plain v L → Nrm L ∧ Rng L ∧ L.length ≤ 2)
theorem okA_fin {n : Nat} {acc : List Span} {st : St} (h : OkA n acc st) (hn : n ≤ 100000) : Nrm (fin_ acc st) ∧ Rng (fin_ acc st) ∧ (fin_ acc st).length ≤ n + 2 := by
 obtain ⟨h1, h2, h3, h4⟩ := h
 cases st with
 | plain v L =>
  obtain ⟨l1, l2, l3⟩ := h4 v L rfl
  obtain ⟨_, f2, f3, _, f5⟩ := andS_says h1 l1 h2 (by omega) (by omega)
  exact ⟨f2, f3, by show (andS acc L).length ≤ _; omega⟩
 | start => exact ⟨h1, h2, Nat.le_trans h3 (by omega)⟩
 | mid => exact ⟨h1, h2, Nat.le_trans h3 (by omega)⟩
 | dash v => exact ⟨h1, h2, Nat.le_trans h3 (by omega)⟩
def Unit1 (w : List UInt8) (M : List Span) : Prop := Nrm M ∧ Rng M ∧ M.length ≤ 2 ∧ ∀ x, Bnd x → ∀ (n : Nat) out acc st, n ≤ 1000 → OkA n acc st → notDash st →
 ∃ acc' st', past st' ∧ OkA (n + 4) acc' st' ∧ goP (lex (w ++ x)) out acc st = goP (lex x) out acc' st' ∧ ∀ y, den (fin_ acc' st') y ↔ den (fin_ acc st) y ∧ den M y
theorem go_any {u : List UInt8} {p : Nat} {ts : List Tok} {out acc : List Span} {st : St} (h : notDash st) (h45 : u ≠ [45]) : goP (.w u p :: ts) out acc st = goP (.w u p :: ts) out (fin_ acc st) .mid := by
 cases st with
 | start => rfl
 | mid => rfl
 | plain v L => rw [go_plain, if_neg h45]; rfl
 | dash v => exact absurd h (by simp [notDash])
theorem fin_mid (acc : List Span) : fin_ acc .mid = acc := rfl
theorem item_45 : itemS [45] = none := rfl
theorem unit_one {u : List UInt8} {M : List Span} (hu : u ≠ []) (ht : ∀ d ∈ u, tokc d = true) (hi : itemS u = some M) : Unit1 u M := by
 obtain ⟨i1, i2, i3⟩ := item_ok hi
 refine ⟨i1, i2, i3, fun x hx n out acc st hn hA hd => ?_⟩
 have h45 : u ≠ [45] := fun h => by rw [h, item_45] at hi; cases hi
 obtain ⟨f1, f2, f3⟩ := okA_fin hA (by omega)
 obtain ⟨_, g2, g3, g4, g5⟩ := andS_says f1 i1 f2 (by omega) (by omega)
 rw [lex_app hu ht hx, go_any hd h45, go_mid, hi]
 cases hv : verP u with
 | none =>
  refine ⟨andS (fin_ acc st) M, .mid, trivial, ⟨g2, g3, by omega, fun v L h => by cases h⟩, rfl, fun y => ?_⟩
  rw [fin_mid, g4]
 | some v =>
  refine ⟨fin_ acc st, .plain v M, trivial, ⟨f1, f2, by omega, fun v' L' h => ?_⟩, rfl, fun y => ?_⟩
  ·injection h with _ h
   subst h
   exact ⟨i1, i2, i3⟩
  ·show den (andS (fin_ acc st) M) y ↔ _
   rw [g4]
theorem unit_two {v w : Ver} (hv : okMk v) (hw : okMk w) : Unit1 (verT v ++ [32, 45, 32] ++ verT w) (btw (ptV v) (ptOf w true false)) := by
 have p1 := verP_text hv
 have p2 := verP_text hw
 have o1 := (verP_ok p1).1
 have o2 := (verP_ok p2).1
 have hb := btw_ver o1 o2
 rw [vP_of (okMk_N hv), vP_of (okMk_N hw)] at hb
 obtain ⟨b1, b2, b3⟩ := hb
 refine ⟨b1, b2, b3, fun x hx n out acc st hn hA hd => ?_⟩
 have hne : ∀ v : Ver, verT v ≠ [] := fun v => by unfold verT; simp
 have e : verT v ++ [32, 45, 32] ++ verT w ++ x = verT v ++ 32 :: ([45] ++ 32 :: (verT w ++ x)) := by simp
 have h45 : verT v ≠ [45] := fun h => by
  unfold verT at h
  injection h with h _
  exact absurd h (by decide)
 obtain ⟨f1, f2, f3⟩ := okA_fin hA (by omega)
 obtain ⟨_, g2, g3, g4, g5⟩ := andS_says f1 b1 f2 (by omega) (by omega)
 rw [e, lex_app (hne v) (verT_c hv) (fun c l h => by injection h with h _; rw [← h]; rfl), lex_blank, lex_app (by simp) (by decide) (fun c l h => by injection h with h _; rw [← h]; rfl), lex_blank, lex_app (hne w) (verT_c hw) hx]
 rw [go_any hd h45, go_mid, item_ver p1]
 simp only [p1]
 rw [go_plain, if_pos rfl, go_dash, p2]
 refine ⟨andS (fin_ acc st) (btw (ptV v) (ptOf w true false)), .mid, trivial, ⟨g2, g3, by omega, fun v L h => by cases h⟩, ?_, fun y => ?_⟩
 ·simp only
  rw [vP_of (okMk_N hv), vP_of (okMk_N hw)]
 ·rw [fin_mid, g4]
def OkO (n : Nat) (out : List Span) : Prop := Nrm out ∧ Rng out ∧ out.length ≤ n
def Says (n : Nat) (l : List UInt8) (O A : Pt → Prop) : Prop := ∀ x, Bnd x → ∀ m out, m ≤ 10000 → OkO m out → ∃ out' acc st, past st ∧ OkA (10 * n) acc st ∧ OkO (m + 100 * n) out' ∧ goP (lex (l ++ x)) out allS .start = goP (lex x) out' acc st ∧ (∀ y, den out' y ↔ den out y ∨ O y) ∧ ∀ y, den (fin_ acc st) y ↔ A y
theorem says_first {w : List UInt8} {M : List Span} (h : Unit1 w M) : Says 1 w (fun _ => False) (fun y => den M y) := by
 intro x hx m out hm ho
 obtain ⟨i1, i2, i3, h⟩ := h
 obtain ⟨acc', st', h1, h2, h3, h4⟩ := h x hx 1 out allS .start (by omega) ⟨allS_says.1, allS_says.2.1, by decide, fun v L h => by cases h⟩ trivial
 refine ⟨out, acc', st', h1, ⟨h2.1, h2.2.1, by have := h2.2.2.1; omega, h2.2.2.2⟩, ⟨ho.1, ho.2.1, by have := ho.2.2; omega⟩, h3, fun y => by simp, fun y => ?_⟩
 rw [h4]
 show den allS y ∧ _ ↔ _
 rw [allS_says.2.2]
 exact ⟨fun h => h.2, fun h => ⟨rng_den i2 h, h⟩⟩
theorem past_dash {st : St} (h : past st) : notDash st := by cases st <;> first | exact trivial | exact h
theorem bnd_blank (x : List UInt8) : Bnd (32 :: x) := fun c l h => by injection h with h _; rw [← h]; rfl
theorem bnd_bar (x : List UInt8) : Bnd (124 :: x) := fun c l h => by injection h with h _; rw [← h]; rfl
theorem lex_blanks : ∀ (k : Nat) (x : List UInt8), lex (List.replicate k 32 ++ x) = lex x
 | 0, x => rfl
 | k + 1, x => by rw [List.replicate_succ, List.cons_append, lex_blank, lex_blanks k x]
theorem says_and {n k : Nat} {l w : List UInt8} {O A : Pt → Prop} {M : List Span} (hn : n ≤ 9) (h : Says n l O A) (hu : Unit1 w M) : Says (n + 1) (l ++ List.replicate (k + 1) 32 ++ w) O (fun y => A y ∧ den M y) := by
 intro x hx m out hm ho
 obtain ⟨out', acc, st, h1, h2, h3, h4, h5, h6⟩ := h (List.replicate (k + 1) 32 ++ (w ++ x)) (by rw [List.replicate_succ]; exact bnd_blank _) m out hm ho
 obtain ⟨i1, i2, i3, hu⟩ := hu
 obtain ⟨acc', st', g1, g2, g3, g4⟩ := hu x hx (10 * n) out' acc st (by omega) h2 (past_dash h1)
 rw [lex_blanks, g3] at h4
 refine ⟨out', acc', st', g1, ⟨g2.1, g2.2.1, by have := g2.2.2.1; omega, g2.2.2.2⟩, ⟨h3.1, h3.2.1, by have := h3.2.2; omega⟩, ?_, h5, fun y => ?_⟩
 ·rw [← h4]; simp
 ·rw [g4, h6]
theorem lex_two (k : Nat) (x : List UInt8) : ∃ p, lex (List.replicate k 32 ++ [124, 124] ++ x) = .bar p :: lex x := by
 rw [List.append_assoc, lex_blanks]
 exact ⟨_, lex_bar rfl⟩
theorem bar_step {n m : Nat} (hn : n ≤ 1000) (hm : m ≤ 100000) {out acc : List Span} {st : St} (h1 : past st) (h2 : OkA n acc st) (h3 : OkO m out) (p : Nat) (ts : List Tok) : ∃ out', goP (.bar p :: ts) out acc st = goP ts out' allS .start ∧ OkO (m + n + 2) out' ∧ ∀ y, den out' y ↔ den out y ∨ den (fin_ acc st) y := by
 obtain ⟨f1, f2, f3⟩ := okA_fin h2 (by omega)
 obtain ⟨_, g2, g3, g4, g5⟩ := orS_says h3.1 f1 h3.2.1 f2 (by have := h3.2.2; omega)
 refine ⟨orS out (fin_ acc st), ?_, ⟨g2, g3, by have := h3.2.2; omega⟩, g4⟩
 cases st with
 | start => exact absurd h1 (by simp [past])
 | dash v => exact absurd h1 (by simp [past])
 | mid => rfl
 | plain v L => rfl
theorem says_or {n j k : Nat} {l w : List UInt8} {O A : Pt → Prop} {M : List Span} (hn : n ≤ 9) (h : Says n l O A) (hu : Unit1 w M) : Says (n + 1) (l ++ List.replicate j 32 ++ [124, 124] ++ List.replicate k 32 ++ w) (fun y => O y ∨ A y) (fun y => den M y) := by
 intro x hx m out hm ho
 have hb : Bnd (List.replicate j 32 ++ [124, 124] ++ (List.replicate k 32 ++ (w ++ x))) := by
  cases j with
  | zero => exact bnd_bar _
  | succ j => rw [List.replicate_succ]; exact bnd_blank _
 obtain ⟨out', acc, st, h1, h2, h3, h4, h5, h6⟩ := h _ hb m out hm ho
 obtain ⟨p, hp⟩ := lex_two j (List.replicate k 32 ++ (w ++ x))
 rw [hp] at h4
 obtain ⟨out2, b1, b2, b3⟩ := bar_step (by omega) (by omega) h1 h2 h3 p (lex (List.replicate k 32 ++ (w ++ x)))
 rw [b1, lex_blanks] at h4
 obtain ⟨i1, i2, i3, hu⟩ := hu
 obtain ⟨acc', st', g1, g2, g3, g4⟩ := hu x hx 1 out2 allS .start (by omega) ⟨allS_says.1, allS_says.2.1, by decide, fun v L h => by cases h⟩ trivial
 rw [g3] at h4
 refine ⟨out2, acc', st', g1, ⟨g2.1, g2.2.1, by have := g2.2.2.1; omega, g2.2.2.2⟩, ⟨b2.1, b2.2.1, by have := b2.2.2; omega⟩, ?_, fun y => ?_, fun y => ?_⟩
 ·rw [← h4]; simp
 ·rw [b3, h5, h6, or_assoc]
 ·rw [g4]
  show den allS y ∧ _ ↔ _
  rw [allS_says.2.2]
  exact ⟨fun h => h.2, fun h => ⟨rng_den i2 h, h⟩⟩
end Go.Vx.Z
/-! Texts of words. -/
namespace Go.Vx.Z
open Go Go.Vx
set_option linter.unusedVariables false
set_option maxRecDepth 100000
def WordT (w : List UInt8) : Prop := (∃ M, Unit1 w M) ∧ w.length ≤ 130 ∧ low w = true ∧ w ≠ []
theorem word_star : WordT [42] := ⟨⟨allS, unit_one (by simp) (by decide) rfl⟩, by decide, by decide, by simp⟩
theorem item_wild {w : List UInt8} {t : Nat × Option Nat} (h42 : w ≠ [42]) (h : wildOf w = some t) : itemS w = some (wildP t) := by
 unfold itemS
 rw [if_neg h42]
 unfold wildS
 rw [h]
 rfl
theorem word_wild {w : List UInt8} {t : Nat × Option Nat} (h42 : w ≠ [42]) (h : wildOf w = some t) (hc : ∀ d ∈ w, tokc d = true) (hl : w.length ≤ 130) (hlow : low w = true) (hne : w ≠ []) : WordT w := ⟨⟨wildP t, unit_one hne hc (item_wild h42 h)⟩, hl, hlow, hne⟩
theorem word_op {op : List UInt8} {v : Ver} (hv : okMk v) (h : op ∈ opsL.map bs) : WordT (op ++ verT v) := by
 obtain ⟨L, hL⟩ := opS_some v h
 obtain ⟨t1, t2, t3⟩ := ops_tok op h
 have hlen := verT_len (okMk_N hv)
 refine ⟨⟨L, unit_one (by unfold verT; simp) (fun c hc => ?_) (item_op hv hL)⟩, ?_, low_app t2 (low_verT hv), by unfold verT; simp⟩
 ·rcases List.mem_append.1 hc with h | h
  ·exact t1 c h
  ·exact verT_c hv c h
 ·rw [List.length_append]; omega
theorem word_two {v w : Ver} (hv : okMk v) (hw : okMk w) : WordT (verT v ++ [32, 45, 32] ++ verT w) := by
 have hlen := verT_len (okMk_N hv)
 have hlen2 := verT_len (okMk_N hw)
 refine ⟨⟨_, unit_two hv hw⟩, ?_, low_app (low_app (low_verT hv) (by decide)) (low_verT hw), by unfold verT; simp⟩
 rw [List.length_append, List.length_append]
 have : ([32, 45, 32] : List UInt8).length = 3 := rfl
 omega
theorem F76_is (x : Int) : ∃ v, F76 (x, ()) = some (lit (verT v), ()) ∧ okMk v := by
 obtain ⟨v, f1, f2⟩ := F32_is (IntKind.wrap IntKind.i64 (Int.tdiv x (Int.ofNat 3))) (IntKind.wrap IntKind.i64 (Int.tdiv x (Int.ofNat 5)))
 refine ⟨v, ?_, f2⟩
 rw [F76_eq, f1, obs, F33_is v (okMk_N f2), obs]
theorem lit_app (a b : List UInt8) : lit a ++ lit b = lit (a ++ b) := bs_inj (by rw [bs_append, bs_lit, bs_lit, bs_lit])
theorem fitsL {a b : List UInt8} (h : a.length + b.length ≤ 1000000) : fitsS (lit a) (lit b) = true := fits_of (by show a.length + b.length ≤ _; omega)
theorem dig_ext (q : Nat) (hq : q < 4) : (decide (Int.ofNat 0 ≤ ((q : Nat) : Int)) && (decide (((q : Nat) : Int) ≤ IntKind.wrap IntKind.i64 (((q : Nat) : Int) + Int.ofNat 1)) && decide (IntKind.wrap IntKind.i64 (((q : Nat) : Int) + Int.ofNat 1) ≤ Int.ofNat 4))) = true ∧
  ByteArray.extract (lit [48, 49, 50, 51]) (Int.toNat ((q : Nat) : Int)) (Int.toNat (IntKind.wrap IntKind.i64 (((q : Nat) : Int) + Int.ofNat 1))) = lit [UInt8.ofNat (48 + q)] := by
 have hw : IntKind.wrap IntKind.i64 (((q : Nat) : Int) + Int.ofNat 1) = ((q + 1 : Nat) : Int) := wrap64s q (by omega)
 rw [hw]
 refine ⟨?_, ?_⟩
 ·rw [ge_zero, Bool.true_and, Bool.and_eq_true, decide_eq_true_eq, decide_eq_true_eq]
  exact ⟨by omega, by show ((q + 1 : Nat) : Int) ≤ 4; omega⟩
 ·rw [Int.toNat_natCast, Int.toNat_natCast]
  match q, hq with
  | 0, _ => rfl
  | 1, _ => rfl
  | 2, _ => rfl
  | 3, _ => rfl
theorem F49_is (x : Int) : ∃ w, F49 (x, ()) = some (lit w, ()) ∧ WordT w := by
 obtain ⟨k, hk, fk⟩ := F29_is x 1125899906842624 (by omega) (by omega)
 obtain ⟨v, fv, hv⟩ := F76_is (k : Int)
 have fk' : F29 (x, Int.ofNat 1125899906842624, ()) = _ := fk
 have hF := F49_eq x
 rw [fk', obs] at hF
 simp only at hF
 rw [fv, obs] at hF
 have e16 : Int.tmod (k : Int) (Int.ofNat 16) = ((k % 16 : Nat) : Int) := rfl
 have e4 : Int.tmod (IntKind.wrap IntKind.i64 (Int.tdiv (k : Int) (Int.ofNat 16))) (Int.ofNat 4) = ((k / 16 % 4 : Nat) : Int) := by
  rw [tdiv_nat k 16 (by omega)]
  rfl
 rw [e16, e4] at hF
 have hq : k / 16 % 4 < 4 := Nat.mod_lt _ (by omega)
 obtain ⟨d1, d2⟩ := dig_ext (k / 16 % 4) hq
 rw [d1, d2] at hF
 have hlen := verT_len (okMk_N hv)
 obtain ⟨v2, fv2, hv2⟩ := F76_is (IntKind.wrap IntKind.i64 (Int.tdiv (k : Int) (Int.ofNat 7)))
 have hlen2 := verT_len (okMk_N hv2)
 have hm : k % 16 < 16 := Nat.mod_lt _ (by omega)
 simp only at hF
 generalize k % 16 = m at *
 generalize k / 16 % 4 = q at *
 have by_ : ∀ {a b : Nat}, a ≠ b → (((a : Nat) : Int) == Int.ofNat b) = false := fun {a b} h => by
  rw [← Bool.not_eq_true, beq_iff_eq]
  intro h2
  have : (a : Int) = (b : Int) := h2
  omega
 have byy : ∀ a : Nat, (((a : Nat) : Int) == Int.ofNat a) = true := fun a => by rw [beq_iff_eq]; rfl
 by_cases h0 : m = 0
 ·subst h0
  rw [byy 0, cT] at hF
  exact ⟨[42], hF, word_star⟩
 rw [by_ h0, cF] at hF
 by_cases h1 : m = 1
 ·subst h1
  rw [byy 1, cT, cT, fitsL (by show 1 + 1 ≤ _; omega), cT, lit_app, fitsL (by show 2 + 2 ≤ _; omega), cT, lit_app] at hF
  refine ⟨_, hF, ?_⟩
  match q, hq with
  | 0, _ => exact word_wild (t := (0, none)) (by decide) rfl (by decide) (by decide) (by decide) (by decide)
  | 1, _ => exact word_wild (t := (1, none)) (by decide) rfl (by decide) (by decide) (by decide) (by decide)
  | 2, _ => exact word_wild (t := (2, none)) (by decide) rfl (by decide) (by decide) (by decide) (by decide)
  | 3, _ => exact word_wild (t := (3, none)) (by decide) rfl (by decide) (by decide) (by decide) (by decide)
 rw [by_ h1, cF] at hF
 by_cases h2 : m = 2
 ·subst h2
  rw [byy 2, cT, cT, fitsL (by show 3 + 1 ≤ _; omega), cT, lit_app, fitsL (by show 4 + 2 ≤ _; omega), cT, lit_app] at hF
  refine ⟨_, hF, ?_⟩
  match q, hq with
  | 0, _ => exact word_wild (t := (1, some 0)) (by decide) rfl (by decide) (by decide) (by decide) (by decide)
  | 1, _ => exact word_wild (t := (1, some 1)) (by decide) rfl (by decide) (by decide) (by decide) (by decide)
  | 2, _ => exact word_wild (t := (1, some 2)) (by decide) rfl (by decide) (by decide) (by decide) (by decide)
  | 3, _ => exact word_wild (t := (1, some 3)) (by decide) rfl (by decide) (by decide) (by decide) (by decide)
 rw [by_ h2, cF] at hF
 by_cases h3 : m = 3
 ·subst h3
  rw [byy 3, cT, fitsL (by show _ + 3 ≤ _; omega), cT, fv2, obs, lit_app, fitsL (by rw [List.length_append]; show _ + 3 + _ ≤ _; omega), cT, lit_app] at hF
  exact ⟨_, hF, word_two hv hv2⟩
 rw [by_ h3, cF] at hF
 by_cases h4 : m = 4
 ·subst h4
  rw [byy 4, cT] at hF
  exact ⟨_, hF, word_wild (t := (999999, none)) (by decide) rfl (by decide) (by decide) (by decide) (by decide)⟩
 rw [by_ h4, cF] at hF
 have hw : IntKind.wrap IntKind.i64 (((m : Nat) : Int) - Int.ofNat 5) = ((m - 5 : Nat) : Int) := by
  show IntKind.wrap IntKind.i64 (((m : Nat) : Int) - 5) = _
  rw [wrap64 (by omega) (by omega)]; omega
 rw [hw, ge_zero, cT, Int.toNat_natCast] at hF
 have hm5 : m - 5 < 11 := by omega
 have key : ∀ i, i < 11 → ∃ op, [(lit []), (lit [61]), (lit [33, 61]), (lit [62]), (lit [62, 61]), (lit [60]), (lit [60, 61]), (lit [94]), (lit [94]), (lit [126]), (lit [126])][i]? = some (lit op) ∧ op ∈ opsL.map bs := by
  intro i hi
  match i, hi with
  | 0, _ => exact ⟨[], rfl, by decide⟩
  | 1, _ => exact ⟨[61], rfl, by decide⟩
  | 2, _ => exact ⟨[33, 61], rfl, by decide⟩
  | 3, _ => exact ⟨[62], rfl, by decide⟩
  | 4, _ => exact ⟨[62, 61], rfl, by decide⟩
  | 5, _ => exact ⟨[60], rfl, by decide⟩
  | 6, _ => exact ⟨[60, 61], rfl, by decide⟩
  | 7, _ => exact ⟨[94], rfl, by decide⟩
  | 8, _ => exact ⟨[94], rfl, by decide⟩
  | 9, _ => exact ⟨[126], rfl, by decide⟩
  | 10, _ => exact ⟨[126], rfl, by decide⟩
 obtain ⟨op, o1, o2⟩ := key (m - 5) hm5
 have o3 := (ops_tok op o2).2.2
 rw [o1, obs, fitsL (by omega), cT, lit_app] at hF
 exact ⟨_, hF, word_op hv o2⟩
def TextT (n : Nat) (l : List UInt8) : Prop := (∃ O A, Says n l O A) ∧ l.length ≤ 140 * n ∧ low l = true ∧ l ≠ []
theorem text_first {w : List UInt8} (h : WordT w) : TextT 1 w := by
 obtain ⟨⟨M, hM⟩, h1, h2, h3⟩ := h
 exact ⟨⟨_, _, says_first hM⟩, by omega, h2, h3⟩
abbrev sepL : List ByteArray := [(lit [32]), (lit [32, 32]), (lit [32, 124, 124, 32]), (lit [124, 124]), (lit [32])]
theorem text_next {n : Nat} {l w : List UInt8} (hn : n ≤ 9) (h : TextT n l) (hw : WordT w) (i : Nat) (hi : i < 5) : ∃ sp, sepL[i]? = some (lit sp) ∧ sp.length ≤ 4 ∧ TextT (n + 1) (l ++ sp ++ w) := by
 obtain ⟨⟨O, A, hS⟩, h1, h2, h3⟩ := h
 obtain ⟨⟨M, hM⟩, w1, w2, w3⟩ := hw
 have mk : ∀ sp : List UInt8, sp.length ≤ 4 → low sp = true → (∃ O A, Says (n + 1) (l ++ sp ++ w) O A) → TextT (n + 1) (l ++ sp ++ w) := fun sp g1 g2 g3 => ⟨g3, by rw [List.length_append, List.length_append]; omega, low_app (low_app h2 g2) w2, by cases l with | nil => exact absurd rfl h3 | cons x l => simp⟩
 have s1 := says_and (k := 0) hn hS hM
 have s2 := says_and (k := 1) hn hS hM
 have s3 := says_or (j := 1) (k := 1) hn hS hM
 have s4 := says_or (j := 0) (k := 0) hn hS hM
 match i, hi with
 | 0, _ => exact ⟨[32], rfl, by decide, mk _ (by decide) (by decide) ⟨_, _, s1⟩⟩
 | 1, _ => exact ⟨[32, 32], rfl, by decide, mk _ (by decide) (by decide) ⟨_, _, s2⟩⟩
 | 2, _ =>
  refine ⟨[32, 124, 124, 32], rfl, by decide, mk _ (by decide) (by decide) ⟨fun y => O y ∨ A y, fun y => den M y, ?_⟩⟩
  have e : l ++ [32, 124, 124, 32] ++ w = l ++ List.replicate 1 32 ++ [124, 124] ++ List.replicate 1 32 ++ w := by simp
  rw [e]
  exact s3
 | 3, _ =>
  refine ⟨[124, 124], rfl, by decide, mk _ (by decide) (by decide) ⟨fun y => O y ∨ A y, fun y => den M y, ?_⟩⟩
  have e : l ++ [124, 124] ++ w = l ++ List.replicate 0 32 ++ [124, 124] ++ List.replicate 0 32 ++ w := by simp
  rw [e]
  exact s4
 | 4, _ => exact ⟨[32], rfl, by decide, mk _ (by decide) (by decide) ⟨_, _, s1⟩⟩
theorem B28_is (ns : List Int) : ∀ (d i : Nat) (l : List UInt8), 6 - i = d → i ≤ 6 → i ≤ ns.length → 0 < i → TextT i l → ∃ l' n, loop B28_0 (ns, lit l, (i : Int), ()) = some (lit l', ()) ∧ n ≤ 6 ∧ TextT n l' := by
 intro d
 induction d with
 | zero =>
  intro i l hd hi hil h0 hT
  obtain rfl : i = 6 := by omega
  refine ⟨l, 6, loop_end ?_, Nat.le_refl _, hT⟩
  rw [B28_0_eq, show decide (((6 : Nat) : Int) < Int.ofNat 6) = false from rfl]
  cases decide (((6 : Nat) : Int) < Int.ofNat ns.length) <;> simp only [cT, cF]
 | succ d ih =>
  intro i l hd hi hil h0 hT
  by_cases hlt : i < ns.length
  ·have hi6 : i < 6 := by omega
   obtain ⟨a, ha, fa⟩ := F29_is ns[i] 5 (by omega) (by omega)
   obtain ⟨k, hk, fk⟩ := F29_is ns[i] 1125899906842624 (by omega) (by omega)
   have fa' : F29 (ns[i], Int.ofNat 5, ()) = _ := fa
   have fk' : F29 (ns[i], Int.ofNat 1125899906842624, ()) = _ := fk
   obtain ⟨w, fw, hw⟩ := F49_is (IntKind.wrap IntKind.i64 (Int.tdiv (k : Int) (Int.ofNat 5)))
   obtain ⟨sp, g1, g2, g3⟩ := text_next (by omega) hT hw a ha
   have g1' : [(lit [32]), (lit [32, 32]), (lit [32, 124, 124, 32]), (lit [124, 124]), (lit [32])][a]? = some (lit sp) := g1
   obtain ⟨l', n, h1, h2, h3⟩ := ih (i + 1) (l ++ sp ++ w) (by omega) (by omega) (by omega) (by omega) g3
   have hl1 := hT.2.1
   have hl2 := hw.2.1
   refine ⟨l', n, loop_step ?_ h1, h2, h3⟩
   rw [B28_0_eq]
   have e1 : decide ((i : Int) > Int.ofNat 0) = true := decide_eq_true (by show (0 : Int) < i; omega)
   have hw1 : IntKind.wrap IntKind.i64 ((i : Int) + Int.ofNat 1) = ((i + 1 : Nat) : Int) := wrap64s i (by omega)
   have hat : ns[i]? = some ns[i] := List.getElem?_eq_getElem hlt
   simp only [lt_in hlt, lt_in hi6, e1, ge_zero, cT, hat, obs, fa', fk', fw, Int.toNat_natCast, g1']
   rw [fitsL (a := l) (b := sp) (by omega), cT, lit_app, fitsL (a := l ++ sp) (b := w) (by rw [List.length_append]; omega), cT, lit_app, hw1]
  ·obtain rfl : i = ns.length := by omega
   refine ⟨l, ns.length, loop_end ?_, hi, hT⟩
   rw [B28_0_eq, lt_out, cF]
theorem F28_is (ns : List Int) : ∃ l n, F28 (ns, ()) = some (lit l, ()) ∧ n ≤ 6 ∧ TextT n l := by
 rw [F28_eq]
 cases ns with
 | nil =>
  have h0 : loop B28_0 ([], lit [], Int.ofNat 0, ()) = some (lit [], ()) := loop_end (by rw [B28_0_eq]; rfl)
  rw [h0, obs]
  exact ⟨[42], 1, rfl, by omega, text_first word_star⟩
 | cons a ns =>
  obtain ⟨k, hk, fk⟩ := F29_is a 1125899906842624 (by omega) (by omega)
  have fk' : F29 (a, Int.ofNat 1125899906842624, ()) = _ := fk
  obtain ⟨w, fw, hw⟩ := F49_is (IntKind.wrap IntKind.i64 (Int.tdiv (k : Int) (Int.ofNat 5)))
  have hl2 := hw.2.1
  obtain ⟨l', n, h1, h2, h3⟩ := B28_is (a :: ns) 5 1 w rfl (by omega) (by simp) (by omega) (text_first hw)
  have h0 : loop B28_0 (a :: ns, lit [], Int.ofNat 0, ()) = some (lit l', ()) := by
   refine loop_step (q := (a :: ns, lit w, ((1 : Nat) : Int), ())) ?_ h1
   rw [B28_0_eq]
   have e0 : decide (Int.ofNat 0 < Int.ofNat (a :: ns).length) = true := decide_eq_true (by show (0 : Int) < (((a :: ns).length : Nat) : Int); simp only [List.length_cons]; omega)
   have e1 : decide (Int.ofNat 0 < Int.ofNat 6) = true := rfl
   have e2 : decide (Int.ofNat 0 > Int.ofNat 0) = false := rfl
   have e3 : decide (Int.ofNat 0 ≤ Int.ofNat 0) = true := rfl
   have e4 : (a :: ns)[Int.toNat (Int.ofNat 0)]? = some a := rfl
   have e5 : lit [] ++ lit w = lit w := by rw [lit_app]; rfl
   have e6 : IntKind.wrap IntKind.i64 (Int.ofNat 0 + Int.ofNat 1) = ((1 : Nat) : Int) := rfl
   simp only [e0, e1, e2, e3, e4, cT, cF, obs, fk', fw]
   rw [fitsL (a := []) (b := w) (by show 0 + w.length ≤ _; omega), cT, e5, e6]
  rw [h0, obs]
  simp only
  have hne : (bl (lit l') == []) = false := by
   rw [bs_toList, bs_lit]
   have := h3.2.2.2
   cases l' with
   | nil => exact absurd rfl this
   | cons x l => rfl
  rw [hne, cF]
  exact ⟨l', n, rfl, h2, h3⟩
end Go.Vx.Z
namespace Go.Vx.Z
open _root_.Int (ofNat toNat)
open IntKind (wrap)
open _root_.ByteArray (size)
open _root_.List (length)
open _root_.Sum (inl inr elim)
open Go Go.Vx Go.Proofs
set_option linter.unusedVariables false
set_option maxRecDepth 1000000
set_option maxHeartbeats 4000000
theorem F5_eq (x0 : List Int) (x1 x2 x3 : Int) (x4 x5 : ByteArray) : F5 (x0, x1, x2, x3, x4, x5, ()) =
 bif decide (ofNat (size x4) > ofNat 30) then some (true, ()) else bif decide (ofNat (size x5) > ofNat 100) then some (true, ()) else Option.bind (F28 (x0, ())) fun r => Option.bind (F29 (x1, ofNat (length (List.map (fun b => ofNat b.1.1.1) (bl r.1))), ())) fun r_1 => bif decide (ofNat 0 ≤ r_1.1) && decide (r_1.1 < ofNat (length (List.map (fun b => ofNat b.1.1.1) (bl r.1)))) && true then Option.bind (List.map (fun b => ofNat b.1.1.1) (bl r.1))[toNat r_1.1]? fun y => bif decide (ofNat 0 ≤ r_1.1) && decide (r_1.1 < ofNat (length (List.map (fun b => ofNat b.1.1.1) (bl r.1)))) && true then Option.bind (List.map (fun b => ofNat b.1.1.1) (bl r.1))[toNat r_1.1]? fun x => Option.bind (F29 (x3, wrap .i64 (ofNat (size r.1) + ofNat 1), ())) fun r_2 => bif decide (ofNat 0 ≤ r_2.1) && decide (r_2.1 ≤ ofNat (size r.1)) then bif decide (ofNat 0 ≤ r_2.1) && decide (r_2.1 ≤ ofNat (size r.1)) then bif fitsS (ByteArray.extract r.1 0 (toNat r_2.1)) x4 then bif decide (ofNat 0 ≤ r_2.1) && (decide (r_2.1 ≤ ofNat (size r.1)) && decide (ofNat (size r.1) ≤ ofNat (size r.1))) then bif fitsS (ByteArray.extract r.1 0 (toNat r_2.1) ++ x4) (ByteArray.extract r.1 (toNat r_2.1) (toNat (ofNat (size r.1)))) then bif fitsS (lit [32]) r.1 then bif fitsS ((lit [32]) ++ r.1) (lit [32, 32]) then bif fitsS r.1 (lit [32, 124]) then bif fitsS r.1 (lit [32, 124, 124]) then bif fitsS (lit [124, 124, 32]) r.1 then bif fitsS r.1 (lit [32, 45, 32]) then bif fitsS (r.1 ++ (lit [32, 45, 32])) x5 then Option.bind (loop B5_0 (ofNat 0, [r.1, bstr (List.set (List.map (fun b => ofNat b.1.1.1) (bl r.1)) (toNat r_1.1) (wrap .u8 (y + x2))), ByteArray.extract r.1 0 (toNat r_2.1), ByteArray.extract r.1 0 (toNat r_2.1) ++ x4 ++ ByteArray.extract r.1 (toNat r_2.1) (toNat (ofNat (size r.1))), x5, (lit [32]) ++ r.1 ++ (lit [32, 32]), r.1 ++ (lit [32, 124]), r.1 ++ (lit [32, 124, 124]), (lit [124, 124, 32]) ++ r.1, r.1 ++ (lit [32, 45, 32]) ++ x5], ())) fun r => elim (fun p => some (p.1, ())) (fun p => some (true, ())) r else none else none else none else none else none else none else none else none else none else none else none else none else none else none := by kernel_rfl
end Go.Vx.Z
