import Derived.Test.YtmhlgndhcfdlbaaGreatDoorV6
set_option linter.unusedSimpArgs false
/-! The order in which things come up: of the queue, as the program takes it. -/
namespace Go.Vx
open Go
set_option linter.unusedVariables false
/-- What a queue comes to, behind what was taken up already: an error, or all, each where it came up first. -/
inductive Bfs (A : Req → Int × List Req) : List Req → List Req → Int → List Req → Prop
  | done (out : List Req) : Bfs A out [] 0 out
  | skip {out q o : List Req} {r : Req} {e : Int} : r ∈ out → Bfs A out q e o → Bfs A out (r :: q) e o
  | fail {out q : List Req} {r : Req} : r ∉ out → (A r).1 ≠ 0 → Bfs A out (r :: q) (A r).1 (out ++ [r])
  | take {out q o : List Req} {r : Req} {e : Int} : r ∉ out → (A r).1 = 0 → Bfs A (out ++ [r]) (q ++ (A r).2) e o → Bfs A out (r :: q) e o
theorem nodup_snoc {out : List Req} {r : Req} (h : out.Nodup) (hr : r ∉ out) : (out ++ [r]).Nodup := by
  rw [List.nodup_append]
  refine ⟨h, by simp, fun a ha b hb => ?_⟩
  rw [List.mem_singleton.1 hb]
  exact fun e => hr (e ▸ ha)
theorem bfs_total {A : Req → Int × List Req} {U : List Req} {M : Nat} {P : Req → Prop} (hM : ∀ r, (A r).2.length ≤ M) (hU : ∀ r, P r → r ∈ U) (hP : ∀ r a, P r → a ∈ (A r).2 → P a) :
    ∀ (n : Nat) (out q : List Req), (U.length + 1 - out.length) * (M + 1) + q.length < n → out.Nodup → (∀ r ∈ out, P r) → (∀ r ∈ q, P r) → ∃ e o, Bfs A out q e o
  | 0, out, q, h, _, _, _ => by omega
  | n + 1, out, [], h, _, _, _ => ⟨0, out, .done out⟩
  | n + 1, out, r :: q, h, hn, ho, hq => by
    by_cases hm : r ∈ out
    · obtain ⟨e, o, h1⟩ := bfs_total hM hU hP n out q (by simp only [List.length_cons] at h; omega) hn ho fun x hx => hq x (List.mem_cons_of_mem _ hx)
      exact ⟨e, o, .skip hm h1⟩
    · by_cases he : (A r).1 = 0
      · have hn' := nodup_snoc hn hm
        have ho' : ∀ x ∈ out ++ [r], P x := fun x hx => by
          rcases List.mem_append.1 hx with hx | hx
          · exact ho x hx
          · rw [List.mem_singleton.1 hx]; exact hq r (by simp)
        have hl := nodup_length hn' fun x hx => hU x (ho' x hx)
        rw [List.length_append, List.length_singleton] at hl
        have e1 : (U.length + 1 - out.length) * (M + 1) = (U.length + 1 - (out.length + 1)) * (M + 1) + (M + 1) := by
          rw [show U.length + 1 - out.length = (U.length + 1 - (out.length + 1)) + 1 by omega, Nat.add_mul, Nat.one_mul]
        have h2 := hM r
        obtain ⟨e, o, h1⟩ := bfs_total hM hU hP n (out ++ [r]) (q ++ (A r).2) (by simp only [List.length_append, List.length_cons, List.length_nil, Nat.zero_add] at h ⊢; omega) hn' ho' fun x hx => by
          rcases List.mem_append.1 hx with hx | hx
          · exact hq x (List.mem_cons_of_mem _ hx)
          · exact hP r x (hq r (by simp)) hx
        exact ⟨e, o, .take hm he h1⟩
      · exact ⟨_, _, .fail hm he⟩
end Go.Vx
namespace Go.Vx.Z
open Go Go.Vx
set_option linter.unusedVariables false
set_option maxRecDepth 100000
section
variable (md : ByteArray) (rq ex : List Req) (sw : List Swp) (w : List Mod) (rv : List Rev)
theorem run44 (h : okS ex sw w) {U : List Req} {M K : Nat} {P : Req → Prop} (hM : ∀ r, (asksOf md ex sw w r).2.length ≤ M) (hU : ∀ r, P r → r ∈ U) (hP : ∀ r a, P r → a ∈ (asksOf md ex sw w r).2 → P a) (hb : (U.length + 1) * (M + 1) + K ≤ big) {out q : List Req} {e : Int} {o : List Req} (hB : Bfs (asksOf md ex sw w) out q e o) :
    ∀ (Q : List Req) (at_ : Nat), Q.drop at_ = q → at_ ≤ Q.length → Q.length ≤ K + out.length * M → out.Nodup → (∀ r ∈ out, P r) → (∀ r ∈ q, P r) →
      loop B44_0 (0, (at_ : Int), md, rq, ex, sw, w, rv, Q, mapOf out, out, ()) = some (e, o, ()) := by
  have hexp : (U.length + 1) * (M + 1) = U.length * M + U.length + M + 1 := by rw [Nat.add_mul, Nat.mul_add, Nat.mul_one, Nat.one_mul]; omega
  have hlen : ∀ out : List Req, out.Nodup → (∀ r ∈ out, P r) → out.length ≤ U.length ∧ out.length * M ≤ U.length * M := fun out h1 h2 => by
    have := nodup_length h1 fun r hr => hU r (h2 r hr)
    exact ⟨this, Nat.mul_le_mul_right M this⟩
  induction hB with
  | done out =>
    intro Q at_ hd hat hl hn ho hq
    have : at_ = Q.length := by
      have := congrArg List.length hd
      rw [List.length_drop, List.length_nil] at this
      omega
    subst this
    refine loop_end ?_
    rw [B44_0_eq, show ((0 : Int) == Int.ofNat 0) = true from rfl, lt_out]
    rfl
  | @skip out q o r e hm _ ih =>
    intro Q at_ hd hat hl hn ho hq
    obtain ⟨k1, k2⟩ := hlen out hn ho
    have hlt : at_ < Q.length := by
      have := congrArg List.length hd
      rw [List.length_drop, List.length_cons] at this
      omega
    have hr : Q[at_] = r ∧ Q.drop (at_ + 1) = q := by
      rw [List.drop_eq_getElem_cons hlt] at hd
      injection hd with h1 h2
      exact ⟨h1, h2⟩
    have hMq := hM Q[at_]
    have h1 := B44_is md rq ex sw w rv at_ Q out hlt (by omega) (by omega) h (by omega)
    rw [any_eqR.2 (hr.1.symm ▸ hm), cond_true] at h1
    exact loop_step h1 (ih Q (at_ + 1) hr.2 hlt hl hn ho fun x hx => hq x (List.mem_cons_of_mem _ hx))
  | @fail out q r hm he =>
    intro Q at_ hd hat hl hn ho hq
    obtain ⟨k1, k2⟩ := hlen out hn ho
    have hlt : at_ < Q.length := by
      have := congrArg List.length hd
      rw [List.length_drop, List.length_cons] at this
      omega
    have hr : Q[at_] = r := by
      rw [List.drop_eq_getElem_cons hlt] at hd
      injection hd
    have hMq := hM Q[at_]
    have h1 := B44_is md rq ex sw w rv at_ Q out hlt (by omega) (by omega) h (by omega)
    rw [hr, show out.any (eqR r) = false from by rw [← Bool.not_eq_true]; exact fun e => hm (any_eqR.1 e), cond_false] at h1
    refine loop_step h1 (loop_end ?_)
    have hb' : ((asksOf md ex sw w r).1 == Int.ofNat 0) = false := by
      rw [← Bool.not_eq_true]; exact fun h => he (by simpa using h)
    rw [B44_0_eq, hb']
    rfl
  | @take out q o r e hm he _ ih =>
    intro Q at_ hd hat hl hn ho hq
    obtain ⟨k1, k2⟩ := hlen out hn ho
    have hlt : at_ < Q.length := by
      have := congrArg List.length hd
      rw [List.length_drop, List.length_cons] at this
      omega
    have hr : Q[at_] = r ∧ Q.drop (at_ + 1) = q := by
      rw [List.drop_eq_getElem_cons hlt] at hd
      injection hd with h1 h2
      exact ⟨h1, h2⟩
    have hMq := hM Q[at_]
    have h1 := B44_is md rq ex sw w rv at_ Q out hlt (by omega) (by omega) h (by omega)
    rw [hr.1, show out.any (eqR r) = false from by rw [← Bool.not_eq_true]; exact fun e => hm (any_eqR.1 e), cond_false, he] at h1
    have hMr := hM r
    refine loop_step h1 (ih (Q ++ (asksOf md ex sw w r).2) (at_ + 1) ?_ (by simp; omega) ?_ (nodup_snoc hn hm) ?_ ?_)
    · rw [List.drop_append_of_le_length (by omega), hr.2]
    · simp only [List.length_append, List.length_singleton, Nat.add_mul, Nat.one_mul]
      omega
    · intro x hx
      rcases List.mem_append.1 hx with hx | hx
      · exact ho x hx
      · rw [List.mem_singleton.1 hx]; exact hq r (by simp)
    · intro x hx
      rcases List.mem_append.1 hx with hx | hx
      · exact hq x (List.mem_cons_of_mem _ hx)
      · exact hP r x (hq r (by simp)) hx
/-- What List tells, by the order in which things come up. -/
theorem list_run (h : Small w) (he : ex.length ≤ 1000) (hs : sw.length ≤ 1000) (hr : rq.length ≤ 1000) (hrq : ∀ r ∈ rq, okR r = true) :
    ((allOf md ex sw w rq).1 ≠ 0 ∧ F44 (md, rq, ex, sw, w, rv, ()) = some ([], (allOf md ex sw w rq).1, ()) ∧ F19 (w, rv, md, rq, ex, sw, ()) = some ([], (allOf md ex sw w rq).1, ())) ∨
    ((allOf md ex sw w rq).1 = 0 ∧ ∃ e o, Bfs (asksOf md ex sw w) [] (allOf md ex sw w rq).2 e o ∧
      ((e = 0 ∧ F44 (md, rq, ex, sw, w, rv, ()) = some (o, 0, ()) ∧ F19 (w, rv, md, rq, ex, sw, ()) = some (builtOf sw o, 0, ())) ∨ (e ≠ 0 ∧ F44 (md, rq, ex, sw, w, rv, ()) = some ([], e, ()) ∧ F19 (w, rv, md, rq, ex, sw, ()) = some ([], e, ())))) := by
  have hS := small_ok ex sw w h he hs
  have hrl : rq.length ≤ big := by simp only [big]; omega
  have hml := may_len rq w h hr
  obtain ⟨e1, l1, g1, _, g2⟩ := list_small md rq ex sw w rv h he hs hr hrq
  have key : ∀ (o : List Req) (e : Int), F44 (md, rq, ex, sw, w, rv, ()) = some (o, e, ()) → (e ≠ 0 → o = [] → F19 (w, rv, md, rq, ex, sw, ()) = some ([], e, ())) ∧ (e = 0 → o.length ≤ big → (∀ r ∈ o, okR r = true) → F19 (w, rv, md, rq, ex, sw, ()) = some (builtOf sw o, 0, ())) := by
    intro o e hF
    rw [F19_eq, F43_eq, Option.bind_some]
    simp only
    rw [hF, Option.bind_some]
    constructor
    · rintro hne rfl
      have hb' : (!e == Int.ofNat 0) = true := by
        rw [Bool.not_eq_true', ← Bool.not_eq_true]
        exact fun h => hne (by simpa using h)
      simp only [hb']
      rfl
    · rintro rfl ho hok
      show (bif !((0 : Int) == Int.ofNat 0) then _ else _) = _
      rw [show (!((0 : Int) == Int.ofNat 0)) = false from rfl, cond_false]
      rw [F45_is md rq ex sw w rv o hok ho hS.hsw]
      rfl
  have hF44 := F44_eq md rq ex sw w rv
  rw [F53_is md rq ex sw w rv rq (fun r hr => okR_ver (hrq r hr)) hrl hS, Option.bind_some] at hF44
  by_cases h0 : (allOf md ex sw w rq).1 = 0
  · refine .inr ⟨h0, ?_⟩
    have hM : ∀ r, (asksOf md ex sw w r).2.length ≤ 10 := asksOf_len md ex sw w 10 h.reqs
    have hU : ∀ r, Reach md ex sw w rq r → r ∈ mayCome w rq := reach_may md rq ex sw w
    have hP : ∀ r a, Reach md ex sw w rq r → a ∈ (asksOf md ex sw w r).2 → Reach md ex sw w rq a := fun r a h1 h2 => .step h1 h2
    obtain ⟨e, o, hB⟩ := bfs_total hM hU hP _ [] (allOf md ex sw w rq).2 (Nat.lt_succ_self _) .nil (by simp) fun r hr => .base hr
    have hal := allOf_len md ex sw w rq
    have hrun := run44 md rq ex sw w rv hS (K := rq.length) hM hU hP (by simp only [big]; omega) hB (allOf md ex sw w rq).2 0 rfl (by omega) (by simpa using hal) .nil (by simp) fun r hr => .base hr
    have hrun' : loop B44_0 ((allOf md ex sw w rq).1, Int.ofNat 0, md, rq, ex, sw, w, rv, (allOf md ex sw w rq).2, [], [], ()) = some (e, o, ()) := by rw [h0]; exact hrun
    simp only at hF44
    rw [hrun', Option.bind_some] at hF44
    simp only at hF44
    refine ⟨e, o, hB, ?_⟩
    by_cases hz : e = 0
    · subst hz
      have hF : F44 (md, rq, ex, sw, w, rv, ()) = some (o, 0, ()) := hF44
      refine .inl ⟨rfl, hF, (key o 0 hF).2 rfl ?_ ?_⟩
      all_goals
        obtain ⟨e2, o2, g3, g4⟩ := closed_ok md rq ex sw w rv hS hrq hrl (mayCome w rq) 10 hU hM (by simp only [big]; omega)
        rw [hF] at g3
        injection g3 with g3
        obtain ⟨rfl, g5⟩ := Prod.mk.inj g3
        obtain ⟨rfl, _⟩ := Prod.mk.inj g5
        rcases g4 with ⟨_, _, g6, g7, _⟩ | ⟨g6, _⟩
      · have := nodup_length g6 fun r hr => hU r ((g7 r).1 hr)
        simp only [big]; omega
      · exact absurd rfl g6
      · exact fun r hr => reach_ok md rq ex sw w hS hrq r ((g7 r).1 hr)
      · exact absurd rfl g6
    · have hb' : (!e == Int.ofNat 0) = true := by
        rw [Bool.not_eq_true', ← Bool.not_eq_true]
        exact fun h => hz (by simpa using h)
      rw [hb'] at hF44
      exact .inr ⟨hz, hF44, (key [] e hF44).1 hz rfl⟩
  · refine .inl ⟨h0, ?_⟩
    have hl : loop B44_0 ((allOf md ex sw w rq).1, Int.ofNat 0, md, rq, ex, sw, w, rv, (allOf md ex sw w rq).2, [], [], ()) = some ((allOf md ex sw w rq).1, [], ()) := by
      refine loop_end ?_
      have hb' : ((allOf md ex sw w rq).1 == Int.ofNat 0) = false := by
        rw [← Bool.not_eq_true]; exact fun h => h0 (by simpa using h)
      rw [B44_0_eq, hb']
      rfl
    simp only at hF44
    rw [hl, Option.bind_some] at hF44
    have hb' : (!(allOf md ex sw w rq).1 == Int.ofNat 0) = true := by
      rw [Bool.not_eq_true', ← Bool.not_eq_true]
      exact fun h => h0 (by simpa using h)
    simp only [hb'] at hF44
    exact ⟨hF44, (key [] _ hF44).1 h0 rfl⟩
end
end Go.Vx.Z
/-! The document's swaps, releases, versions, what is excluded, said. -/
namespace Go.Vx
open Go
set_option linter.unusedVariables false
/-- A loop that looks for the first: where it is. -/
theorem loop_idx {P E α : Type} {B : P → Option (P ⊕ E)} (xs : List α) (st : Nat → P) (p : α → Bool) (hit : Nat → α → E) (miss : E)
    (hs : ∀ i (h : i < xs.length), B (st i) = some (bif p xs[i] then .inr (hit i xs[i]) else .inl (st (i + 1)))) (he : B (st xs.length) = some (.inr miss)) :
    ∃ e, loop B (st 0) = some e ∧ ((xs.find? p = none ∧ e = miss) ∨ ∃ (i : Nat) (h : i < xs.length), xs.find? p = some xs[i] ∧ p xs[i] = true ∧ (∀ j (hj : j < xs.length), j < i → p xs[j] = false) ∧ e = hit i xs[i]) := by
  have key : ∀ (n i : Nat), xs.length - i = n → i ≤ xs.length → (∀ j (hj : j < xs.length), j < i → p xs[j] = false) → ∃ e, loop B (st i) = some e ∧ (((xs.drop i).find? p = none ∧ e = miss) ∨ ∃ (j : Nat) (h : j < xs.length), (xs.drop i).find? p = some xs[j] ∧ p xs[j] = true ∧ (∀ k (hk : k < xs.length), k < j → p xs[k] = false) ∧ e = hit j xs[j]) := by
    intro n
    induction n with
    | zero =>
      intro i h1 h2 _
      have : i = xs.length := by omega
      subst this
      exact ⟨miss, loop_end he, .inl ⟨by simp, rfl⟩⟩
    | succ n ih =>
      intro i h1 h2 hbef
      have hlt : i < xs.length := by omega
      have hb := hs i hlt
      rw [List.drop_eq_getElem_cons hlt, List.find?_cons]
      cases hp : p xs[i] with
      | true =>
        rw [hp] at hb
        exact ⟨_, loop_end hb, .inr ⟨i, hlt, rfl, hp, hbef, rfl⟩⟩
      | false =>
        rw [hp] at hb
        obtain ⟨e, h3, h4⟩ := ih (i + 1) (by omega) hlt fun j hj hji => by
          by_cases hj' : j = i
          · subst hj'; exact hp
          · exact hbef j hj (by omega)
        exact ⟨e, loop_step hb h3, h4⟩
  have := key xs.length 0 (by omega) (by omega) (fun j _ h => by omega)
  simpa using this
theorem exclOf_sym (l : List Req) (r : Req) : l.find? (fun y => eqR y r) = none ↔ exclOf l r = false := by
  unfold exclOf
  rw [List.find?_eq_none, List.any_eq_false]
  constructor
  · intro h x hx e
    exact h x hx (eqR_iff.2 (eqR_iff.1 e).symm)
  · intro h x hx e
    exact h x hx (eqR_iff.2 (eqR_iff.1 e).symm)
/-- Versions of a module rise. -/
def Rises (w : List Mod) : Prop := ∀ p, (versOf w p).Pairwise fun a b => cmpV a b = -1
theorem maxV_last : ∀ (l : List Ver), (l.Pairwise fun a b => cmpV a b = -1) → l ≠ [] → l.getLast? = some (maxV l)
  | [], _, h => absurd rfl h
  | v :: l, hp, _ => by
    have key : ∀ (l : List Ver) (m : Ver), ((m :: l).Pairwise fun a b => cmpV a b = -1) → (m :: l).getLast? = some (l.foldl (fun m x => if cmpV x m > 0 then x else m) m) := by
      intro l
      induction l with
      | nil => intro m _; rfl
      | cons x l ih =>
        intro m hp
        have h1 := (List.pairwise_cons.1 hp).1 x (by simp)
        have h2 := lin_cmpV.anti m x
        rw [List.foldl_cons, if_pos (by omega), List.getLast?_cons_cons]
        exact ih x (List.pairwise_cons.1 hp).2
    exact key l v hp
theorem find_rev {α : Type} (p : α → Bool) (l : List α) : l.reverse.find? p = (l.filter p).getLast? := by
  rw [← List.head?_filter, List.filter_reverse, List.head?_reverse]
end Go.Vx
namespace Go.Vx.Z
open Go Go.Vx
set_option linter.unusedVariables false
set_option maxRecDepth 100000
section
variable (md : ByteArray) (rq ex : List Req) (sw : List Swp) (w : List Mod) (rv : List Rev)
theorem F51_is (p : ByteArray) (h : sw.length ≤ big) :
    F51 (md, rq, ex, sw, p, ()) = some ((swapOf sw p).elim (lit [], lit [], 0, 0, 0, lit [], false, ()) fun y => (y.1, y.2.1, y.2.2.1, y.2.2.2.1, y.2.2.2.2.1, y.2.2.2.2.2.1, true, ())) := by
  rw [F51_eq]
  rw [show (Int.ofNat 0 : Int) = ((0 : Nat) : Int) from rfl, loop_find (B := B51_0) sw (fun i => (p, (i : Int), md, rq, ex, sw, lit [], lit [], ((0 : Nat) : Int), ((0 : Nat) : Int), ((0 : Nat) : Int), lit [], ())) (fun y => bs y.1 == bs p)
    (fun y => .inl (true, y.1, y.2.1, y.2.2.1, y.2.2.2.1, y.2.2.2.2.1, y.2.2.2.2.2.1, ())) (.inr (lit [], lit [], ((0 : Nat) : Int), ((0 : Nat) : Int), ((0 : Nat) : Int), lit [], ())) ?_ ?_]
  · unfold swapOf
    cases sw.find? fun y => bs y.1 == bs p <;> rfl
  · intro i hi
    rw [B51_0_eq, lt_in hi, ge_zero, at_in hi, wrap_next hi (by simp only [big] at h; omega)]
    simp only [cond_true, Option.bind_some, beq_bs]
    cases bs sw[i].1 == bs p <;> rfl
  · rw [B51_0_eq, lt_out]; rfl
theorem F77_is (p : ByteArray) (h : w.length ≤ big) : ∃ e : Int, F77 (w, rv, p, ()) = some (e, ()) ∧ ((e = -1 ∧ modOf w p = none) ∨ ∃ (i : Nat) (hi : i < w.length), e = i ∧ modOf w p = some w[i]) := by
  rw [F77_eq]
  obtain ⟨e, h1, h2⟩ := loop_idx (B := B77_0) w (fun i => (p, (i : Int), w, rv, ())) (fun y => bs y.1 == bs p) (fun i _ => .inl ((i : Int), ())) (.inr ()) (by
    intro i hi
    rw [B77_0_eq, lt_in hi, ge_zero, at_in hi, wrap_next hi (by simp only [big] at h; omega)]
    simp only [cond_true, Option.bind_some, beq_bs]
    cases bs w[i].1 == bs p <;> rfl) (by rw [B77_0_eq, lt_out]; rfl)
  have h1' : loop B77_0 (p, Int.ofNat 0, w, rv, ()) = some e := h1
  rw [h1', Option.bind_some]
  rcases h2 with ⟨h3, rfl⟩ | ⟨i, hi, h3, _, _, rfl⟩
  · exact ⟨-1, rfl, .inl ⟨rfl, h3⟩⟩
  · exact ⟨(i : Int), rfl, .inr ⟨i, hi, rfl, h3⟩⟩
theorem F57_is (p : ByteArray) (v : Ver) (h : okW w) : F57 (w, rv, p, v.1, v.2.1, v.2.2.1, v.2.2.2.1, ()) =
    some ((relOf w p v).elim (0, 0, 0, lit [], [], lit [], lit [], false, ()) fun y => (y.1, y.2.1, y.2.2.1, y.2.2.2.1, y.2.2.2.2.1, y.2.2.2.2.2.1, y.2.2.2.2.2.2.1, true, ())) := by
  obtain ⟨e, h1, h2⟩ := F77_is w rv p h.1
  rw [F57_eq, h1, Option.bind_some]
  rcases h2 with ⟨rfl, h3⟩ | ⟨i, hi, rfl, h3⟩
  · have : relOf w p v = none := by unfold relOf relsOf; rw [h3]; rfl
    rw [this]
    rfl
  · have hneg : decide ((i : Int) < Int.ofNat 0) = false := by simp
    simp only
    rw [hneg, ge_zero, at_in hi]
    simp only [cond_false, cond_true, Option.bind_some]
    have hre : relsOf w p = w[i].2.1 := by unfold relsOf; rw [h3]; rfl
    have hl : w[i].2.1.length ≤ big := (h.2 _ (List.getElem_mem hi)).1
    rw [show (Int.ofNat 0 : Int) = ((0 : Nat) : Int) from rfl, loop_find (B := B57_0) w[i].2.1 (fun j => (w[i].2.1, (j : Int), v.1, v.2.1, v.2.2.1, v.2.2.2.1, ((0 : Nat) : Int), ((0 : Nat) : Int), ((0 : Nat) : Int), lit [], lit [], lit [], ())) (fun y => eqV y.v v)
      (fun y => .inl (true, y.1, y.2.1, y.2.2.1, y.2.2.2.1, y.2.2.2.2.1, y.2.2.2.2.2.1, y.2.2.2.2.2.2.1, ())) (.inr (((0 : Nat) : Int), ((0 : Nat) : Int), ((0 : Nat) : Int), lit [], lit [], lit [], ())) ?_ ?_]
    · unfold relOf
      rw [hre]
      cases w[i].2.1.find? fun y => eqV y.v v <;> rfl
    · intro j hj
      rw [B57_0_eq, lt_in hj, ge_zero, at_in hj, wrap_next hj (by simp only [big] at hl; omega)]
      simp only [cond_true, Option.bind_some, beq_bs]
      show (bif eqV w[i].2.1[j].v v then some _ else some _) = _
      cases eqV w[i].2.1[j].v v <;> rfl
    · rw [B57_0_eq, lt_out]; rfl
theorem F106_is (r : Req) (h : ex.length ≤ big) : F106 (md, rq, ex, sw, r.1, r.2.1, r.2.2.1, r.2.2.2.1, r.2.2.2.2.1, ()) = some (exclOf ex r, ()) := by
  rw [F106_eq]
  obtain ⟨e, h1, h2⟩ := loop_idx (B := B106_0) ex (fun i => ((i : Int), md, rq, ex, sw, r.1, r.2.1, r.2.2.1, r.2.2.2.1, r.2.2.2.2.1, ())) (fun y => eqR y r) (fun i _ => .inl (true, ())) (.inr ()) (by
    intro i hi
    rw [B106_0_eq, lt_in hi, ge_zero, at_in hi, wrap_next hi (by simp only [big] at h; omega)]
    simp only [cond_true, Option.bind_some, beq_bs]
    show (bif eqR ex[i] r then some _ else some _) = _
    cases eqR ex[i] r <;> rfl) (by rw [B106_0_eq, lt_out]; rfl)
  have h1' : loop B106_0 (Int.ofNat 0, md, rq, ex, sw, r.1, r.2.1, r.2.2.1, r.2.2.2.1, r.2.2.2.2.1, ()) = some e := h1
  rw [h1', Option.bind_some]
  rcases h2 with ⟨h3, rfl⟩ | ⟨i, hi, h3, h4, _, rfl⟩
  · rw [(exclOf_sym ex r).1 h3]; rfl
  · have : exclOf ex r = true := by
      unfold exclOf
      rw [List.any_eq_true]
      exact ⟨_, List.getElem_mem hi, eqR_iff.2 (eqR_iff.1 h4).symm⟩
    rw [this]; rfl
theorem F125_is (p : ByteArray) (h : okW w) : F125 (w, rv, p, ()) = some (versOf w p, ()) := by
  obtain ⟨e, h1, h2⟩ := F77_is w rv p h.1
  rw [F125_eq, h1, Option.bind_some]
  simp only
  rcases h2 with ⟨rfl, h3⟩ | ⟨i, hi, rfl, h3⟩
  · have : versOf w p = [] := by unfold versOf relsOf; rw [h3]; rfl
    rw [this, loop_end (e := ([], ())) (by rw [B125_0_eq]; rfl), Option.bind_some]
  · have hre : versOf w p = w[i].2.1.map Rel.v := by unfold versOf relsOf; rw [h3]; rfl
    have hl : w[i].2.1.length ≤ big := (h.2 _ (List.getElem_mem hi)).1
    simp only [big] at hl
    have e0 : decide ((i : Int) ≥ Int.ofNat 0) = true := by simp
    rw [show (Int.ofNat 0 : Int) = ((0 : Nat) : Int) from rfl, loop_fold (B := B125_0) w[i].2.1 (fun j b => ((i : Int), (j : Int), w, rv, b, ())) (fun b y => b ++ [y.v]) (fun b => (b, ())) [] (fun j b => b.length = j) rfl ?_ ?_]
    · have : ∀ (l : List Rel) (b : List Ver), l.foldl (fun b y => b ++ [y.v]) b = b ++ l.map Rel.v := by
        intro l
        induction l with
        | nil => simp
        | cons x l ih => intro b; rw [List.foldl_cons, ih]; simp
      rw [this, hre]
      rfl
    · intro j hj b hb
      refine ⟨?_, by simp [hb]⟩
      have e2 : ∀ q : Ver, decide (b.length + [q].length ≤ 3518437208883) = true := by intro q; simp; omega
      rw [B125_0_eq, e0, ge_zero, at_in hi]
      simp only [cond_true, Option.bind_some]
      rw [lt_in hj, at_in hj, wrap_next hj (by omega)]
      simp only [cond_true, Option.bind_some]
      rw [e2]
      rfl
    · intro b hb
      rw [B125_0_eq, e0, ge_zero, at_in hi]
      simp only [cond_true, Option.bind_some]
      rw [lt_out]; rfl
/-- The greatest below that is not excluded. -/
theorem F107_is (r : Req) (h : okS ex sw w) (hr : okR r = true) (hw : Rises w) (hl : (versOf w r.1).length ≤ 100000) : F107 (w, rv, md, rq, ex, sw, r.1, r.2.1, r.2.2.1, r.2.2.2.1, r.2.2.2.2.1, ()) =
    some (if belowOf w ex r = [] then (lit [], 0, 0, 0, lit [], false, ()) else (r.1, (maxV (belowOf w ex r)).1, (maxV (belowOf w ex r)).2.1, (maxV (belowOf w ex r)).2.2.1, (maxV (belowOf w ex r)).2.2.2.1, true, ())) := by
  rw [F107_eq, F125_is w rv r.1 h.hw, Option.bind_some]
  simp only
  have hv := (versOf_ok (p := r.1) h.hw h.vers).2
  have hfind : (versOf w r.1).reverse.find? (fun v => !delP ex r v) = (if belowOf w ex r = [] then none else some (maxV (belowOf w ex r))) := by
    rw [find_rev]
    show (belowOf w ex r).getLast? = _
    by_cases hb : belowOf w ex r = []
    · rw [if_pos hb, hb]; rfl
    · rw [if_neg hb]
      exact maxV_last _ ((hw r.1).sublist List.filter_sublist) hb
  revert hfind hl hv
  generalize versOf w r.1 = l
  intro hl hv hfind
  have hst : IntKind.wrap IntKind.i64 (Int.ofNat l.length - Int.ofNat 1) = (l.length : Int) - 1 - ((0 : Nat) : Int) := by
    rw [wrap64 (by simp; omega) (by simp; omega)]
    simp
  rw [hst, show (Int.ofNat 0 : Int) = ((0 : Nat) : Int) from rfl, loop_find (B := B107_0) l.reverse (fun j => (l, (l.length : Int) - 1 - (j : Int), md, rq, ex, sw, r.1, r.2.1, r.2.2.1, r.2.2.2.1, r.2.2.2.2.1, lit [], ((0 : Nat) : Int), ((0 : Nat) : Int), ((0 : Nat) : Int), lit [], ())) (fun v => !delP ex r v)
    (fun v => .inl (true, r.1, v.1, v.2.1, v.2.2.1, v.2.2.2.1, ())) (.inr (lit [], ((0 : Nat) : Int), ((0 : Nat) : Int), ((0 : Nat) : Int), lit [], ())) ?_ ?_]
  · rw [hfind]
    split <;> rfl
  · intro j hj
    rw [List.length_reverse] at hj
    have hk : l.length - 1 - j < l.length := by omega
    have hidx : (l.length : Int) - 1 - (j : Int) = ((l.length - 1 - j : Nat) : Int) := by omega
    have hget : l.reverse[j]'(by simpa using hj) = l[l.length - 1 - j] := by rw [List.getElem_reverse]
    have e0 : decide (((l.length - 1 - j : Nat) : Int) ≥ Int.ofNat 0) = true := by simp
    have hw1 : IntKind.wrap IntKind.i64 (((l.length - 1 - j : Nat) : Int) - Int.ofNat 1) = (l.length : Int) - 1 - ((j + 1 : Nat) : Int) := by
      rw [wrap64 (by simp; omega) (by simp; omega)]
      simp
      omega
    rw [B107_0_eq, hidx, e0, at_in hk, hw1, hget]
    simp only [cond_true, Option.bind_some]
    have hm := List.getElem_mem hk
    have hF := F21_is l[l.length - 1 - j] r.2 (hv _ hm) (okR_ver hr)
    have hX := F106_is md rq ex sw (r.1, l[l.length - 1 - j]) h.hex
    revert hF hX
    generalize l[l.length - 1 - j] = v
    intro hF hX
    simp only at hX
    rw [hF, Option.bind_some, hX]
    simp only [Option.bind_some]
    unfold delP
    by_cases hc : cmpV v r.2 < 0
    · have d1 : decide (cmpV v r.2 < Int.ofNat 0) = true := by simpa using hc
      have d2 : decide (cmpV v r.2 ≥ 0) = false := by simp; omega
      rw [d1, d2, cond_true, Bool.false_or]
      cases exclOf ex (r.1, v) <;> rfl
    · have d1 : decide (cmpV v r.2 < Int.ofNat 0) = false := by simpa using hc
      have d2 : decide (cmpV v r.2 ≥ 0) = true := by simp; omega
      rw [d1, d2]
      rfl
  · rw [List.length_reverse, B107_0_eq]
    have e0 : decide ((l.length : Int) - 1 - ((l.length : Nat) : Int) ≥ Int.ofNat 0) = false := by simp; omega
    rw [e0]
    rfl
/-- Said: as the program takes it. -/
theorem F78_is (r : Req) (h : okS ex sw w) (hr : okR r = true) (hw : Rises w) (hl : ∀ p, (versOf w p).length ≤ 100000) (hs : ∀ s ∈ sw, s.1 ≠ md) :
    ∃ q : Req, F78 (w, rv, md, rq, ex, sw, r.1, r.2.1, r.2.2.1, r.2.2.2.1, r.2.2.2.2.1, ()) = some (q.1, q.2.1, q.2.2.1, q.2.2.2.1, q.2.2.2.2.1, (saidOf md ex sw w r).2.isSome, (saidOf md ex sw w r).1, ()) ∧ ∀ x, (saidOf md ex sw w r).2 = some x → q = x := by
  rw [F78_eq, F51_is md rq ex sw r.1 h.hsw, beq_bs]
  simp only [Option.bind_some]
  unfold saidOf
  cases hm : (bs r.1 == bs md) with
  | true =>
    have hmd : r.1 = md := bs_eq.1 hm
    have hsn : swapOf sw r.1 = none := by
      unfold swapOf
      rw [List.find?_eq_none]
      intro s hs' he
      exact hs s hs' ((bs_eq.1 he).trans hmd)
    rw [hsn, if_neg (by simp), if_pos hmd]
    exact ⟨r, rfl, fun x hx => by cases hx⟩
  | false =>
    have hmd : r.1 ≠ md := fun e => by rw [bs_eq.2 e] at hm; cases hm
    simp only [cond_false]
    cases hsw : swapOf sw r.1 with
    | some s => exact ⟨r, rfl, fun x hx => by injection hx⟩
    | none =>
      rw [if_neg (by simp), if_neg hmd]
      simp only [Option.elim_none, cond_false]
      rw [F106_is md rq ex sw r h.hex, Option.bind_some]
      simp only
      cases hx : exclOf ex r with
      | true =>
        rw [if_pos rfl, cond_true, F107_is md rq ex sw w rv r h hr hw (hl r.1), Option.bind_some]
        split
        · exact ⟨r, rfl, fun x hx => by cases hx⟩
        · exact ⟨(r.1, maxV (belowOf w ex r)), rfl, fun x hx => by injection hx⟩
      | false =>
        rw [if_neg (by simp), cond_false, F57_is w rv r.1 r.2 h.hw, Option.bind_some]
        cases hrel : relOf w r.1 r.2 with
        | some y => exact ⟨r, rfl, fun x hx => by injection hx⟩
        | none => exact ⟨r, rfl, fun x hx => by cases hx⟩
end
end Go.Vx.Z
/-! The document's all, asks. -/
namespace Go.Vx
open Go
set_option linter.unusedVariables false
theorem lin_same {α : Type} {c : α → α → Int} (h : Lin c) : ∀ (a b : List α), (a.Pairwise fun x y => c x y = -1) → (b.Pairwise fun x y => c x y = -1) → (∀ r, r ∈ a ↔ r ∈ b) → a = b
  | [], [], _, _, _ => rfl
  | [], y :: b, _, _, hm => by have := (hm y).2 (by simp); simp at this
  | x :: a, [], _, _, hm => by have := (hm x).1 (by simp); simp at this
  | x :: a, y :: b, ha, hb, hm => by
    have ha' := List.pairwise_cons.1 ha
    have hb' := List.pairwise_cons.1 hb
    have hxy : x = y := by
      rcases List.mem_cons.1 ((hm x).1 (by simp)) with e | hx
      · exact e
      · rcases List.mem_cons.1 ((hm y).2 (by simp)) with e | hy
        · exact e.symm
        · have h1 := ha'.1 y hy
          have h2 := hb'.1 x hx
          have h3 := h.anti x y
          omega
    subst hxy
    have hn : ∀ (d : List α), (∀ z ∈ d, c x z = -1) → x ∉ d := fun d hd hx => by
      have := hd x hx
      rw [h.self] at this
      cases this
    rw [lin_same h a b ha'.2 hb'.2 fun r => ?_]
    constructor
    · intro hr
      rcases List.mem_cons.1 ((hm r).1 (List.mem_cons_of_mem _ hr)) with e | hr'
      · exact absurd (e ▸ hr) (hn a ha'.1)
      · exact hr'
    · intro hr
      rcases List.mem_cons.1 ((hm r).2 (List.mem_cons_of_mem _ hr)) with e | hr'
      · exact absurd (e ▸ hr) (hn b hb'.1)
      · exact hr'
theorem compact_asc : ∀ (s : List Req), Asc s → (compactOf s).Pairwise fun x y => cmpR x y = -1
  | [], _ => .nil
  | [x], _ => by simp [compactOf]
  | x :: y :: l, hs => by
    have hs' : Asc (y :: l) := (List.pairwise_cons.1 hs).2
    have hxy := (List.pairwise_cons.1 hs).1
    have ih := compact_asc (y :: l) hs'
    simp only [compactOf]
    split
    · exact ih
    · rename_i hne
      rw [List.pairwise_cons]
      refine ⟨fun q hq => ?_, ih⟩
      have hq' := compactOf_sub _ _ hq
      have h1 : ¬ cmpR q x < 0 := hxy q hq'
      have h2 := lin_cmpR.anti x q
      have h3 := lin_cmpR.rng x q
      by_cases h0 : cmpR x q = 0
      · exfalso
        have e := (lin_cmpR.eq0 _ _).1 h0
        have h4 : ¬ cmpR y x < 0 := hxy y (by simp)
        have h5 : ¬ cmpR q y < 0 := by
          rcases List.mem_cons.1 hq' with rfl | h
          · rw [lin_cmpR.self]; decide
          · exact (List.pairwise_cons.1 hs').1 q h
        rw [← e] at h5
        have h6 := lin_cmpR.anti x y
        have : cmpR x y = 0 := by omega
        exact hne ((lin_cmpR.eq0 _ _).1 this)
      · omega
/-- Sorted, each once. -/
abbrev normOf (l : List Req) : List Req := compactOf (sortBy cmpR l)
theorem norm_mem (l : List Req) (r : Req) : r ∈ normOf l ↔ r ∈ l :=
  ⟨fun h => (Z.sortBy_perm _).mem_iff.1 (compactOf_sub _ _ h), fun h => compactOf_all _ _ ((Z.sortBy_perm _).mem_iff.2 h)⟩
theorem norm_asc (l : List Req) : (normOf l).Pairwise fun x y => cmpR x y = -1 := compact_asc _ (sortBy_sorted l)
theorem norm_eq {l out : List Req} (h : out.Pairwise fun x y => cmpR x y = -1) (hm : ∀ x, x ∈ out ↔ x ∈ l) : out = normOf l :=
  lin_same lin_cmpR _ _ h (norm_asc l) fun r => (hm r).trans (norm_mem l r).symm
end Go.Vx
namespace Go.Vx.Z
open Go Go.Vx
set_option linter.unusedVariables false
set_option maxRecDepth 100000
section
variable (md : ByteArray) (rq ex : List Req) (sw : List Swp) (w : List Mod) (rv : List Rev)
/-- A manifest, a world that the document's functions take as the program does. -/
structure okD (md : ByteArray) (ex : List Req) (sw : List Swp) (w : List Mod) : Prop where
  s : okS ex sw w
  rises : Rises w
  few : ∀ p, (versOf w p).length ≤ 100000
  reqs : ∀ m ∈ w, ∀ y ∈ m.2.1, y.reqs.length ≤ 100000
  own : ∀ s ∈ sw, s.1 ≠ md
def res58 (acc : List Req) (a : Int × List Req) : (Int × Unit) ⊕ (List Req × Unit) := if a.1 = 0 then .inr (acc ++ a.2, ()) else .inl (a.1, ())
theorem all58 (h : okD md ex sw w) (l : List Req) (hl : ∀ r ∈ l, okR r = true) (hn : l.length ≤ 100000) : ∀ (n i : Nat) (acc : List Req), l.length - i = n → i ≤ l.length → acc.length ≤ i →
    loop B58_0 (l, (i : Int), w, rv, md, rq, ex, sw, acc, ()) = some (res58 acc (allOf md ex sw w (l.drop i))) := by
  intro n
  induction n with
  | zero =>
    intro i acc h1 h2 _
    have : i = l.length := by omega
    subst this
    refine loop_end ?_
    rw [B58_0_eq, lt_out, List.drop_length]
    simp [allOf, res58]
  | succ n ih =>
    intro i acc h1 h2 h3
    have hlt : i < l.length := by omega
    obtain ⟨q, h4, h5⟩ := F78_is md rq ex sw w rv l[i] h.s (hl _ (List.getElem_mem hlt)) h.rises h.few h.own
    have hB := B58_0_eq l (i : Int) w rv md rq ex sw acc
    rw [lt_in hlt, ge_zero, at_in hlt, wrap_next hlt (by omega)] at hB
    simp only [cond_true, Option.bind_some] at hB
    rw [h4] at hB
    simp only [Option.bind_some] at hB
    rw [List.drop_eq_getElem_cons hlt]
    simp only [allOf]
    by_cases he : (saidOf md ex sw w l[i]).1 = 0
    · rw [if_pos he]
      have e1 : (!(saidOf md ex sw w l[i]).1 == Int.ofNat 0) = false := by rw [he]; rfl
      rw [e1, cond_false] at hB
      cases hs : (saidOf md ex sw w l[i]).2 with
      | none =>
        rw [hs] at hB
        refine loop_step hB ?_
        rw [ih (i + 1) acc (by omega) hlt (by omega)]
        unfold res58
        by_cases h0 : (allOf md ex sw w (l.drop (i + 1))).1 = 0 <;> simp [h0]
      | some x =>
        have hqx := h5 x hs
        rw [hs] at hB
        have e2 : ∀ z : Req, decide (acc.length + [z].length ≤ 2513169434916) = true := by
          intro z; rw [decide_eq_true_eq]; simp only [List.length_cons, List.length_nil]; omega
        simp only [Option.isSome_some, cond_true] at hB
        rw [e2] at hB
        refine loop_step hB ?_
        have hx : ((q.1, q.2.1, q.2.2.1, q.2.2.2.1, q.2.2.2.2.1, ()) : Req) = x := hqx
        rw [hx, ih (i + 1) (acc ++ [x]) (by omega) hlt (by simp; omega)]
        unfold res58
        by_cases h0 : (allOf md ex sw w (l.drop (i + 1))).1 = 0 <;> simp [h0]
    · rw [if_neg he]
      unfold res58
      rw [if_neg he]
      have e1 : (!(saidOf md ex sw w l[i]).1 == Int.ofNat 0) = true := by
        rw [Bool.not_eq_true', ← Bool.not_eq_true]
        exact fun h => he (by simpa using h)
      rw [e1] at hB
      exact loop_end hB
theorem F58_is (h : okD md ex sw w) (l : List Req) (hl : ∀ r ∈ l, okR r = true) (hn : l.length ≤ 100000) :
    F58 (w, rv, md, rq, ex, sw, l, ()) = some (if (allOf md ex sw w l).1 = 0 then (0, normOf (allOf md ex sw w l).2, ()) else ((allOf md ex sw w l).1, [], ())) := by
  have h1 := all58 md rq ex sw w rv h l hl hn l.length 0 [] (by omega) (by omega) (by simp)
  have h1' : loop B58_0 (l, Int.ofNat 0, w, rv, md, rq, ex, sw, [], ()) = _ := h1
  rw [F58_eq, h1', Option.bind_some, List.drop_zero]
  unfold res58
  by_cases h0 : (allOf md ex sw w l).1 = 0
  · rw [if_pos h0, if_pos h0]
    simp only [Sum.elim_inr, List.nil_append]
    have hlen := allOf_len md ex sw w l
    obtain ⟨out, h2, h3, h4, h5⟩ := F17_is (allOf md ex sw w l).2 (allOf_ok md ex sw w h.s l hl) (by omega)
    rw [h2, Option.bind_some]
    simp only
    rw [norm_eq h5 h4]
    rfl
  · rw [if_neg h0, if_neg h0]
    rfl
theorem F30_is (h : okD md ex sw w) (r : Req) : F30 (w, rv, md, rq, ex, sw, r.1, r.2.1, r.2.2.1, r.2.2.2.1, r.2.2.2.2.1, ()) = some ((asksOf md ex sw w r).2, (asksOf md ex sw w r).1, ()) := by
  have key : ∀ x : Req, standsFor sw r = x → Option.bind (F57 (w, rv, x.1, x.2.1, x.2.2.1, x.2.2.2.1, x.2.2.2.2.1, ())) (fun r => bif !r.2.2.2.2.2.2.2.1 then some ([], Int.ofNat 9, ()) else Option.bind (F58 (w, rv, md, rq, ex, sw, r.2.2.2.2.1, ())) fun r => some (r.2.1, r.1, ())) = some ((asksOf md ex sw w r).2, (asksOf md ex sw w r).1, ()) := by
    rintro x rfl
    rw [F57_is w rv (standsFor sw r).1 (standsFor sw r).2 h.s.hw, Option.bind_some]
    unfold asksOf
    cases hrel : relOf w (standsFor sw r).1 (standsFor sw r).2 with
    | none => rfl
    | some y =>
      obtain ⟨m, hm, hy⟩ := relOf_mem w hrel
      simp only [Option.elim_some, Bool.not_true, cond_false]
      have h58 := F58_is md rq ex sw w rv h y.reqs (h.s.reqs m hm y hy) (h.reqs m hm y hy)
      show Option.bind (F58 (w, rv, md, rq, ex, sw, y.reqs, ())) _ = _
      rw [h58, Option.bind_some]
      split <;> rfl
  rw [F30_eq, F51_is md rq ex sw r.1 h.s.hsw, Option.bind_some]
  cases hsw : swapOf sw r.1 with
  | none => exact key r (by unfold standsFor; rw [hsw]; rfl)
  | some s => exact key s.2 (by unfold standsFor; rw [hsw]; rfl)
end
end Go.Vx.Z
/-! The document's walk: what comes up, in turn; of each who asked first. -/
namespace Go.Vx
open Go
set_option linter.unusedVariables false
/-- Of some, those that are new, each once. -/
def newOf : List Req → List Req → List Req
  | _, [] => []
  | S, r :: q => if S.any (eqR r) = true then newOf S q else r :: newOf (S ++ [r]) q
theorem any_mem {k : Req} {l : List Req} : l.any (eqR k) = true ↔ k ∈ l := by
  rw [List.any_eq_true]
  constructor
  · rintro ⟨x, h1, h2⟩; rw [eqR_iff.1 h2]; exact h1
  · intro h; exact ⟨k, h, eqR_iff.2 rfl⟩
theorem newOf_in {S : List Req} {r : Req} (q : List Req) (h : r ∈ S) : newOf S (r :: q) = newOf S q := by
  show (if S.any (eqR r) = true then _ else _) = _
  rw [if_pos (any_mem.2 h)]
theorem newOf_out {S : List Req} {r : Req} (q : List Req) (h : r ∉ S) : newOf S (r :: q) = r :: newOf (S ++ [r]) q := by
  show (if S.any (eqR r) = true then _ else _) = _
  rw [if_neg fun e => h (any_mem.1 e)]
theorem newOf_same : ∀ (q S S' : List Req), (∀ x, x ∈ S ↔ x ∈ S') → newOf S q = newOf S' q
  | [], _, _, _ => rfl
  | r :: q, S, S', h => by
    by_cases hr : r ∈ S
    · rw [newOf_in q hr, newOf_in q ((h r).1 hr), newOf_same q S S' h]
    · rw [newOf_out q hr, newOf_out q fun e => hr ((h r).2 e), newOf_same q _ (S' ++ [r]) fun x => by simp [h x]]
theorem newOf_app : ∀ (q S a : List Req), newOf S (q ++ a) = newOf S q ++ newOf (S ++ q) a
  | [], S, a => by simp [newOf]
  | r :: q, S, a => by
    by_cases hr : r ∈ S
    · rw [List.cons_append, newOf_in _ hr, newOf_in _ hr, newOf_app q S a]
      congr 1
      refine newOf_same a _ _ fun x => ?_
      simp only [List.mem_append, List.mem_cons]
      constructor
      · rintro (h | h)
        · exact .inl h
        · exact .inr (.inr h)
      · rintro (h | rfl | h)
        · exact .inl h
        · exact .inl hr
        · exact .inr h
    · rw [List.cons_append, newOf_out _ hr, newOf_out _ hr, newOf_app q _ a, List.cons_append]
      congr 2
      simp
theorem newOf_mem : ∀ (q S : List Req) (x : Req), x ∈ S ++ newOf S q ↔ x ∈ S ++ q
  | [], S, x => by simp [newOf]
  | r :: q, S, x => by
    by_cases hr : r ∈ S
    · rw [newOf_in _ hr, newOf_mem q S x]
      simp only [List.mem_append, List.mem_cons]
      constructor
      · rintro (h | h)
        · exact .inl h
        · exact .inr (.inr h)
      · rintro (h | rfl | h)
        · exact .inl h
        · exact .inl hr
        · exact .inr h
    · have := newOf_mem q (S ++ [r]) x
      rw [newOf_out _ hr]
      simpa [List.append_assoc] using this
theorem newOf_not : ∀ (q S : List Req) (x : Req), x ∈ newOf S q → x ∉ S ∧ x ∈ q
  | [], S, x => by simp [newOf]
  | r :: q, S, x => by
    intro h
    by_cases hr : r ∈ S
    · rw [newOf_in _ hr] at h
      exact ⟨(newOf_not q S x h).1, List.mem_cons_of_mem _ (newOf_not q S x h).2⟩
    · rw [newOf_out _ hr] at h
      rcases List.mem_cons.1 h with rfl | h
      · exact ⟨hr, by simp⟩
      · have := newOf_not q _ x h
        exact ⟨fun e => this.1 (List.mem_append_left _ e), List.mem_cons_of_mem _ this.2⟩
theorem newOf_len : ∀ (q S : List Req), (newOf S q).length ≤ q.length
  | [], S => by simp [newOf]
  | r :: q, S => by
    by_cases hr : r ∈ S
    · rw [newOf_in _ hr]
      have := newOf_len q S
      simp; omega
    · rw [newOf_out _ hr]
      have := newOf_len q (S ++ [r])
      simp; omega
theorem newOf_nodup : ∀ (q S : List Req), S.Nodup → (S ++ newOf S q).Nodup
  | [], S, h => by simpa [newOf] using h
  | r :: q, S, h => by
    by_cases hr : r ∈ S
    · rw [newOf_in _ hr]; exact newOf_nodup q S h
    · rw [newOf_out _ hr]
      have := newOf_nodup q (S ++ [r]) (nodup_snoc h hr)
      simpa [List.append_assoc] using this
theorem newOf_self : ∀ (q S : List Req), (S ++ q).Nodup → newOf S q = q
  | [], S, _ => rfl
  | r :: q, S, h => by
    have hr : r ∉ S := fun e => (List.nodup_append.1 h).2.2 r e r (by simp) rfl
    rw [newOf_out _ hr, newOf_self q (S ++ [r]) (by simpa [List.append_assoc] using h)]
/-- Who asked first for the one at a place: the manifest, or one ahead of it. -/
def Par (A : Req → Int × List Req) (q0 l : List Req) (k : Nat) (f : Int) : Prop :=
  ∃ x, l[k]? = some x ∧ ((f = -1 ∧ x ∈ q0) ∨ (x ∉ q0 ∧ ∃ (i : Nat) (y : Req), f = i ∧ i < k ∧ l[i]? = some y ∧ x ∈ (A y).2 ∧ ∀ (j : Nat) (z : Req), j < i → l[j]? = some z → x ∉ (A z).2))
theorem Par.more {A : Req → Int × List Req} {q0 l : List Req} {k : Nat} {f : Int} (h : Par A q0 l k f) (m : List Req) : Par A q0 (l ++ m) k f := by
  obtain ⟨x, h1, h2⟩ := h
  have hl : ∀ {k : Nat} {x : Req}, l[k]? = some x → (l ++ m)[k]? = some x := fun {k x} h => by
    rw [List.getElem?_append_left (List.getElem?_eq_some_iff.1 h).1]; exact h
  refine ⟨x, hl h1, ?_⟩
  rcases h2 with h2 | ⟨h2, i, y, h3, h4, h5, h6, h7⟩
  · exact .inl h2
  · refine .inr ⟨h2, i, y, h3, h4, hl h5, h6, fun j z hj hz => h7 j z hj ?_⟩
    have hk := (List.getElem?_eq_some_iff.1 h1).1
    rw [List.getElem?_append_left (by omega)] at hz
    exact hz
end Go.Vx
namespace Go.Vx.Z
open Go Go.Vx
set_option linter.unusedVariables false
set_option maxRecDepth 100000
theorem F59_is (l : List Req) (r : Req) (h : l.length ≤ 1000000) : ∃ e : Int, F59 (l, r.1, r.2.1, r.2.2.1, r.2.2.2.1, r.2.2.2.2.1, ()) = some (e, ()) ∧ ((e = -1 ∧ r ∉ l) ∨ ∃ i : Nat, e = i ∧ l[i]? = some r ∧ ∀ j : Nat, j < i → l[j]? ≠ some r) := by
  rw [F59_eq]
  obtain ⟨e, h1, h2⟩ := loop_idx (B := B59_0) l (fun i => (l, (i : Int), r.1, r.2.1, r.2.2.1, r.2.2.2.1, r.2.2.2.2.1, ())) (fun y => eqR y r) (fun i _ => .inl ((i : Int), ())) (.inr ()) (by
    intro i hi
    rw [B59_0_eq, lt_in hi, ge_zero, at_in hi, wrap_next hi (by omega)]
    simp only [cond_true, Option.bind_some, beq_bs]
    show (bif eqR l[i] r then some _ else some _) = _
    cases eqR l[i] r <;> rfl) (by rw [B59_0_eq, lt_out]; rfl)
  have h1' : loop B59_0 (l, Int.ofNat 0, r.1, r.2.1, r.2.2.1, r.2.2.2.1, r.2.2.2.2.1, ()) = some e := h1
  rw [h1', Option.bind_some]
  rcases h2 with ⟨h3, rfl⟩ | ⟨i, hi, h3, h4, h5, rfl⟩
  · refine ⟨-1, rfl, .inl ⟨rfl, fun hm => ?_⟩⟩
    exact List.find?_eq_none.1 h3 r hm (eqR_iff.2 rfl)
  · refine ⟨(i : Int), rfl, .inr ⟨i, rfl, by rw [List.getElem?_eq_getElem hi, eqR_iff.1 h4], fun j hj e => ?_⟩⟩
    have hjl : j < l.length := by omega
    have h6 := h5 j hjl hj
    rw [List.getElem?_eq_getElem hjl] at e
    injection e with e
    rw [eqR_iff.2 e] at h6
    cases h6
section
variable (md : ByteArray) (rq ex : List Req) (sw : List Swp) (w : List Mod) (rv : List Rev)
theorem walk_in (i : Nat) (a : List Req) (ha : a.length ≤ 100000) : ∀ (n k : Nat) (l : List Req) (fr : List Int), a.length - k = n → k ≤ a.length → l.length ≤ 800000 + k → fr.length = l.length →
    loop B49_1 ((i : Int), a, (k : Int), w, rv, md, rq, ex, sw, l, fr, ()) = some ((i : Int), w, rv, md, rq, ex, sw, l ++ newOf l (a.drop k), fr ++ List.replicate (newOf l (a.drop k)).length (i : Int), ()) := by
  intro n
  induction n with
  | zero =>
    intro k l fr h1 h2 h3 h4
    have : k = a.length := by omega
    subst this
    refine loop_end ?_
    rw [B49_1_eq, lt_out, List.drop_length]
    simp [newOf]
  | succ n ih =>
    intro k l fr h1 h2 h3 h4
    have hlt : k < a.length := by omega
    obtain ⟨e, h5, h6⟩ := F59_is l a[k] (by omega)
    have hB := B49_1_eq (i : Int) a (k : Int) w rv md rq ex sw l fr
    rw [lt_in hlt, ge_zero, at_in hlt, wrap_next hlt (by omega)] at hB
    simp only [cond_true, Option.bind_some] at hB
    rw [h5] at hB
    simp only [Option.bind_some] at hB
    rw [List.drop_eq_getElem_cons hlt]
    rcases h6 with ⟨rfl, h6⟩ | ⟨j, rfl, h6, _⟩
    · have e1 : decide ((-1 : Int) < Int.ofNat 0) = true := by decide
      have e2 : ∀ z : Req, decide (l.length + [z].length ≤ 2513169434916) = true := by
        intro z; rw [decide_eq_true_eq]; simp only [List.length_cons, List.length_nil]; omega
      have e3 : decide (fr.length + [(i : Int)].length ≤ 17592186044416) = true := by
        rw [decide_eq_true_eq]; simp only [List.length_cons, List.length_nil]; omega
      rw [e1, e2, e3] at hB
      rw [newOf_out _ h6]
      refine loop_step hB ?_
      have hx : ((a[k].1, a[k].2.1, a[k].2.2.1, a[k].2.2.2.1, a[k].2.2.2.2.1, ()) : Req) = a[k] := rfl
      rw [hx, ih (k + 1) (l ++ [a[k]]) (fr ++ [(i : Int)]) (by omega) hlt (by simp; omega) (by simp [h4])]
      simp [List.append_assoc, List.replicate_succ]
    · have e1 : decide ((j : Int) < Int.ofNat 0) = false := by simp
      rw [e1] at hB
      rw [newOf_in _ (List.mem_of_getElem? h6)]
      exact loop_step hB (ih (k + 1) l fr (by omega) hlt (by omega) h4)
/-- The walk, by the order in which things come up. -/
theorem walk_run (h : okD md ex sw w) {M L : Nat} (hL : L ≤ 800000) (hM : ∀ r, (asksOf md ex sw w r).2.length ≤ M) (hM2 : M ≤ 100000) {q0 : List Req} {P : Req → Prop} {U : List Req} (hU : ∀ r, P r → r ∈ U) (hUL : U.length ≤ L) (hP : ∀ r a, P r → a ∈ (asksOf md ex sw w r).2 → P a)
    {out q : List Req} {e : Int} {o : List Req} (hB : Bfs (asksOf md ex sw w) out q e o) :
    ∀ (i : Nat) (l : List Req) (fr : List Int), l = out ++ newOf out q → i = out.length → fr.length = l.length → l.Nodup → (∀ r ∈ l, P r) → (∀ k f, fr[k]? = some f → Par (asksOf md ex sw w) q0 l k f) → (∀ r ∈ q0, r ∈ l) → (∀ (j : Nat) (y : Req), j < i → l[j]? = some y → ∀ a ∈ (asksOf md ex sw w y).2, a ∈ l) →
      (e ≠ 0 → loop B49_2 ((i : Int), w, rv, md, rq, ex, sw, l, fr, ()) = some (.inl (e, ()))) ∧
      (e = 0 → ∃ fr', loop B49_2 ((i : Int), w, rv, md, rq, ex, sw, l, fr, ()) = some (.inr (o, fr', ())) ∧ fr'.length = o.length ∧ o.length ≤ L ∧ ∀ k f, fr'[k]? = some f → Par (asksOf md ex sw w) q0 o k f) := by
  have hstep : ∀ (i : Nat) (l : List Req) (fr : List Int) (hlt : i < l.length), l.length ≤ L → fr.length = l.length →
      B49_2 ((i : Int), w, rv, md, rq, ex, sw, l, fr, ()) = some (bif !(asksOf md ex sw w l[i]).1 == Int.ofNat 0 then .inr (.inl ((asksOf md ex sw w l[i]).1, ())) else .inl (((i + 1 : Nat) : Int), w, rv, md, rq, ex, sw, l ++ newOf l (asksOf md ex sw w l[i]).2, fr ++ List.replicate (newOf l (asksOf md ex sw w l[i]).2).length (i : Int), ())) := by
    intro i l fr hlt hll hfl
    have hMi := hM l[i]
    rw [B49_2_eq, lt_in hlt, ge_zero, at_in hlt]
    simp only [cond_true, Option.bind_some]
    rw [F30_is md rq ex sw w rv h l[i], Option.bind_some]
    simp only
    cases !(asksOf md ex sw w l[i]).1 == Int.ofNat 0 with
    | true => rfl
    | false =>
      have h1 := walk_in md rq ex sw w rv i (asksOf md ex sw w l[i]).2 (by omega) _ 0 l fr rfl (by omega) (by omega) hfl
      have h1' : loop B49_1 ((i : Int), (asksOf md ex sw w l[i]).2, Int.ofNat 0, w, rv, md, rq, ex, sw, l, fr, ()) = _ := h1
      simp only [cond_false]
      rw [h1', Option.bind_some]
      simp only
      rw [wrap_next hlt (by omega), List.drop_zero]
  induction hB with
  | done out =>
    rintro i l fr rfl rfl hfl hn hPl hpar hq hcl
    refine ⟨fun hne => absurd rfl hne, fun _ => ?_⟩
    have hl0 : out ++ newOf out [] = out := by simp [newOf]
    rw [hl0] at hfl hn hPl hpar ⊢
    have hlen := nodup_length hn fun r hr => hU r (hPl r hr)
    refine ⟨fr, loop_end ?_, hfl, by omega, hpar⟩
    rw [B49_2_eq, lt_out]
    rfl
  | @skip out q o r e hm _ ih =>
    rintro i l fr rfl rfl hfl hn hPl hpar hq hcl
    exact ih out.length _ fr (by rw [newOf_in _ hm]) rfl hfl hn hPl hpar hq hcl
  | @fail out q r hm he =>
    rintro i l fr hl rfl hfl hn hPl hpar hq hcl
    rw [newOf_out _ hm] at hl
    have hlen := nodup_length hn fun r hr => hU r (hPl r hr)
    have hlt : out.length < l.length := by rw [hl]; simp
    have hr : l[out.length] = r := by simp [hl]
    have h1 := hstep out.length l fr hlt (by omega) hfl
    rw [hr] at h1
    have hb' : (!(asksOf md ex sw w r).1 == Int.ofNat 0) = true := by
      rw [Bool.not_eq_true', ← Bool.not_eq_true]
      exact fun h => he (by simpa using h)
    rw [hb'] at h1
    exact ⟨fun _ => loop_end h1, fun hz => absurd hz he⟩
  | @take out q o r e hm he _ ih =>
    rintro i l fr hl rfl hfl hn hPl hpar hq hcl
    rw [newOf_out _ hm] at hl
    have hlen := nodup_length hn fun r hr => hU r (hPl r hr)
    have hlt : out.length < l.length := by rw [hl]; simp
    have hr : l[out.length] = r := by simp [hl]
    have h1 := hstep out.length l fr hlt (by omega) hfl
    rw [hr, he, show (!(0 : Int) == Int.ofNat 0) = false from rfl, cond_false] at h1
    have hrl : r ∈ l := by rw [← hr]; exact List.getElem_mem hlt
    have hr? : l[out.length]? = some r := by rw [List.getElem?_eq_getElem hlt, hr]
    have hnew : l ++ newOf l (asksOf md ex sw w r).2 = (out ++ [r]) ++ newOf (out ++ [r]) (q ++ (asksOf md ex sw w r).2) := by
      rw [newOf_app]
      have h2 : newOf ((out ++ [r]) ++ q) (asksOf md ex sw w r).2 = newOf l (asksOf md ex sw w r).2 := newOf_same _ _ _ fun x => by
        have := newOf_mem q (out ++ [r]) x
        rw [← this, hl]
        simp
      rw [h2, hl]
      simp
    have h3 := ih (out.length + 1) (l ++ newOf l (asksOf md ex sw w r).2) (fr ++ List.replicate (newOf l (asksOf md ex sw w r).2).length (out.length : Int)) hnew (by simp) (by simp [hfl]) (newOf_nodup _ _ hn) ?_ ?_ ?_ ?_
    · exact ⟨fun hne => loop_step h1 (h3.1 hne), fun hz => by
        obtain ⟨fr', h4, h5⟩ := h3.2 hz
        exact ⟨fr', loop_step h1 h4, h5⟩⟩
    · intro x hx
      rcases List.mem_append.1 hx with hx | hx
      · exact hPl x hx
      · exact hP r x (hPl r hrl) (newOf_not _ _ _ hx).2
    · intro k f hk
      by_cases hkl : k < fr.length
      · rw [List.getElem?_append_left hkl] at hk
        exact (hpar k f hk).more _
      · rw [List.getElem?_append_right (by omega), List.getElem?_replicate] at hk
        split at hk
        · rename_i hlt2
          injection hk with hk
          rw [hfl] at hlt2
          have hx? : (l ++ newOf l (asksOf md ex sw w r).2)[k]? = some ((newOf l (asksOf md ex sw w r).2)[k - l.length]) := by
            rw [List.getElem?_append_right (by omega), List.getElem?_eq_getElem hlt2]
          have hxn := newOf_not _ _ _ (List.getElem_mem hlt2)
          refine ⟨_, hx?, .inr ⟨fun e => hxn.1 (hq _ e), out.length, r, hk.symm, by omega, ?_, hxn.2, fun j z hj hz e => ?_⟩⟩
          · rw [List.getElem?_append_left hlt]; exact hr?
          · rw [List.getElem?_append_left (by omega)] at hz
            exact hxn.1 (hcl j z hj hz _ e)
        · cases hk
    · exact fun x hx => List.mem_append_left _ (hq x hx)
    · intro j y hj hy a ha
      by_cases hj' : j = out.length
      · subst hj'
        rw [List.getElem?_append_left hlt, hr?] at hy
        injection hy with hy
        subst hy
        exact (newOf_mem _ _ _).2 (List.mem_append_right _ ha)
      · rw [List.getElem?_append_left (by omega)] at hy
        exact List.mem_append_left _ (hcl j y (by omega) hy a ha)
end
end Go.Vx.Z
/-! The document's List: of each path the greatest, put in where it belongs. -/
namespace Go.Vx
open Go
set_option linter.unusedVariables false
theorem Lin.le_trans {α : Type} {c : α → α → Int} (h : Lin c) {x y z : α} (h1 : c x y ≤ 0) (h2 : c y z ≤ 0) : c x z ≤ 0 := by
  have r1 := h.rng x y
  have r2 := h.rng y z
  by_cases e1 : c x y = 0
  · rw [(h.eq0 _ _).1 e1]; exact h2
  · by_cases e2 : c y z = 0
    · rw [← (h.eq0 _ _).1 e2]; exact h1
    · have := h.trans x y z (by omega) (by omega)
      omega
theorem ins_pair {α : Type} {R : α → α → Prop} (ht : ∀ x y z, R x y → R y z → R x z) {b : List α} (hb : b.Pairwise R) (x : α) (j : Nat) (hj : j ≤ b.length) (h1 : ∀ k (hk : k < b.length), j ≤ k → R x b[k]) (h2 : ∀ k (hk : k < b.length), k + 1 = j → R b[k] x) :
    (b.take j ++ [x] ++ b.drop j).Pairwise R := by
  have hx : ∀ y ∈ b.drop j, R x y := by
    intro y hy
    obtain ⟨k, hk, rfl⟩ := List.getElem_of_mem hy
    rw [List.length_drop] at hk
    rw [List.getElem_drop]
    exact h1 (j + k) (by omega) (by omega)
  have hy : ∀ y ∈ b.take j, R y x := by
    intro y hy
    obtain ⟨k, hk, rfl⟩ := List.getElem_of_mem hy
    rw [List.length_take] at hk
    rw [List.getElem_take]
    have h3 := h2 (j - 1) (by omega) (by omega)
    by_cases he : k = j - 1
    · subst he; exact h3
    · exact ht _ _ _ (List.pairwise_iff_getElem.1 hb k (j - 1) (by omega) (by omega) (by omega)) h3
  have hb' : (b.take j ++ b.drop j).Pairwise R := by rw [List.take_append_drop]; exact hb
  rw [List.pairwise_append] at hb' ⊢
  refine ⟨?_, hb'.2.1, fun a ha c hc => ?_⟩
  · rw [List.pairwise_append]
    exact ⟨hb'.1, by simp, fun a ha c hc => by rw [List.mem_singleton.1 hc]; exact hy a ha⟩
  · rcases List.mem_append.1 ha with ha | ha
    · exact hb'.2.2 a ha c hc
    · rw [List.mem_singleton.1 ha]; exact hx c hc
theorem tops_asc (S : List Req) : (topsOf S).Pairwise fun x y => cmpT (bs x.1) (bs y.1) = -1 := lasts_asc _ (sortBy_sorted S)
theorem tops_great {S : List Req} {r : Req} (h : r ∈ S) : ∃ q ∈ topsOf S, q.1 = r.1 := by
  obtain ⟨q, h1, h2, _⟩ := lasts_great _ (sortBy_sorted S) r ((Z.sortBy_perm S).mem_iff.2 h)
  exact ⟨q, h1, h2⟩
theorem tops_upd (S : List Req) (x : Req) (k : Nat) (hk : k < (topsOf S).length) (he : (topsOf S)[k].1 = x.1) :
    (topsOf S).set k (x.1, if cmpV x.2 (topsOf S)[k].2 > 0 then x.2 else (topsOf S)[k].2) = topsOf (S ++ [x]) := by
  generalize hz : ((x.1, if cmpV x.2 (topsOf S)[k].2 > 0 then x.2 else (topsOf S)[k].2) : Req) = z
  have hz1 : z.1 = x.1 := by rw [← hz]
  have hasc := tops_asc S
  have hm : ∀ r, r ∈ (topsOf S).set k z ↔ r = z ∨ (r ∈ topsOf S ∧ r.1 ≠ x.1) := by
    intro r
    constructor
    · intro hr
      obtain ⟨j, hj, e⟩ := List.getElem_of_mem hr
      rw [List.getElem_set] at e
      split at e
      · exact .inl e.symm
      · rename_i hne
        rw [List.length_set] at hj
        refine .inr ⟨e ▸ List.getElem_mem hj, fun h => ?_⟩
        rw [← e, ← he] at h
        rcases Nat.lt_trichotomy k j with hl | hl | hl
        · have := List.pairwise_iff_getElem.1 hasc k j hk hj hl
          rw [h, lin_cmpT.self] at this
          cases this
        · exact hne hl
        · have := List.pairwise_iff_getElem.1 hasc j k hj hk hl
          rw [h, lin_cmpT.self] at this
          cases this
    · rintro (rfl | ⟨h1, h2⟩)
      · exact List.mem_set hk _
      · obtain ⟨j, hj, rfl⟩ := List.getElem_of_mem h1
        have hjk : j ≠ k := fun e => by subst e; exact h2 he
        have : ((topsOf S).set k z)[j]'(by simpa using hj) = (topsOf S)[j] := by
          rw [List.getElem_set]
          rw [if_neg fun e => hjk e.symm]
        rw [← this]
        exact List.getElem_mem _
  obtain ⟨t1, t2⟩ := (tops_iff S _).1 (List.getElem_mem hk)
  refine asc_same _ _ ?_ (tops_asc _) fun r => ?_
  · rw [List.pairwise_iff_getElem]
    have hp : ∀ j (hj : j < ((topsOf S).set k z).length), (((topsOf S).set k z)[j]).1 = ((topsOf S)[j]'(by simpa using hj)).1 := by
      intro j hj
      rw [List.getElem_set]
      split
      · rename_i e
        subst e
        rw [hz1, he]
      · rfl
    intro i j hi hj hij
    rw [hp i hi, hp j hj]
    exact List.pairwise_iff_getElem.1 hasc i j (by simpa using hi) (by simpa using hj) hij
  · rw [hm, tops_iff (S ++ [x]) r]
    by_cases hr : r.1 = x.1
    · constructor
      · rintro (rfl | ⟨_, h⟩)
        · refine ⟨?_, fun q hq hqr => ?_⟩
          · rw [← hz]
            split
            · exact List.mem_append_right _ (by simp)
            · have : ((x.1, (topsOf S)[k].2) : Req) = (topsOf S)[k] := Prod.ext he.symm rfl
              rw [this]
              exact List.mem_append_left _ t1
          · have hq2 : cmpV q.2 (topsOf S)[k].2 ≤ 0 ∨ q = x := by
              rcases List.mem_append.1 hq with hq | hq
              · exact .inl (t2 q hq (by rw [hqr, hz1, he]))
              · exact .inr (List.mem_singleton.1 hq)
            rw [← hz]
            simp only
            split
            · rename_i hgt
              have h3 := lin_cmpV.anti x.2 (topsOf S)[k].2
              rcases hq2 with h | h
              · exact lin_cmpV.le_trans h (by omega)
              · rw [h, lin_cmpV.self]; decide
            · rename_i hgt
              rcases hq2 with h | h
              · exact h
              · rw [h]; omega
        · exact absurd hr h
      · rintro ⟨h1, h2⟩
        refine .inl ?_
        have h3 := h2 (topsOf S)[k] (List.mem_append_left _ t1) (he.trans hr.symm)
        have h4 := h2 x (List.mem_append_right _ (by simp)) hr.symm
        rw [← hz]
        refine Prod.ext hr ?_
        simp only
        rcases List.mem_append.1 h1 with h1 | h1
        · have h5 := t2 r h1 (hr.trans he.symm)
          have h6 := lin_cmpV.anti r.2 (topsOf S)[k].2
          have h7 : r.2 = (topsOf S)[k].2 := (lin_cmpV.eq0 _ _).1 (by omega)
          rw [← h7, if_neg (by omega)]
        · have h5 := List.mem_singleton.1 h1
          rw [h5] at h3 ⊢
          split
          · rfl
          · have h6 := lin_cmpV.anti x.2 (topsOf S)[k].2
            exact (lin_cmpV.eq0 _ _).1 (by omega)
    · constructor
      · rintro (rfl | ⟨h1, _⟩)
        · exact absurd hz1 hr
        · obtain ⟨h2, h3⟩ := (tops_iff S r).1 h1
          refine ⟨List.mem_append_left _ h2, fun q hq hqr => ?_⟩
          rcases List.mem_append.1 hq with hq | hq
          · exact h3 q hq hqr
          · rw [List.mem_singleton.1 hq] at hqr
            exact absurd hqr.symm hr
      · rintro ⟨h1, h2⟩
        refine .inr ⟨(tops_iff S r).2 ⟨?_, fun q hq hqr => h2 q (List.mem_append_left _ hq) hqr⟩, hr⟩
        rcases List.mem_append.1 h1 with h1 | h1
        · exact h1
        · rw [List.mem_singleton.1 h1] at hr
          exact absurd rfl hr
theorem tops_ins (S : List Req) (x : Req) (k : Nat) (hk : k ≤ (topsOf S).length) (h1 : ∀ j (hj : j < (topsOf S).length), k ≤ j → cmpT (bs x.1) (bs (topsOf S)[j].1) = -1) (h2 : ∀ j (hj : j < (topsOf S).length), j + 1 = k → cmpT (bs (topsOf S)[j].1) (bs x.1) = -1) :
    (topsOf S).take k ++ [x] ++ (topsOf S).drop k = topsOf (S ++ [x]) := by
  have hasc := ins_pair (R := fun x y : Req => cmpT (bs x.1) (bs y.1) = -1) (fun x y z => lin_cmpT.trans _ _ _) (tops_asc S) x k hk h1 h2
  have hno : ∀ r ∈ topsOf S, r.1 ≠ x.1 := by
    intro r hr e
    rw [← List.take_append_drop k (topsOf S)] at hr
    rw [List.pairwise_append] at hasc
    rcases List.mem_append.1 hr with hr | hr
    · have := (List.pairwise_append.1 hasc.1).2.2 r hr x (by simp)
      rw [e, lin_cmpT.self] at this
      cases this
    · have := hasc.2.2 x (by simp) r hr
      rw [e, lin_cmpT.self] at this
      cases this
  have hno' : ∀ r ∈ S, r.1 ≠ x.1 := fun r hr e => by
    obtain ⟨q, h3, h4⟩ := tops_great hr
    exact hno q h3 (h4.trans e)
  refine asc_same _ _ hasc (tops_asc _) fun r => ?_
  have hm : r ∈ (topsOf S).take k ++ [x] ++ (topsOf S).drop k ↔ r = x ∨ r ∈ topsOf S := by
    have : r ∈ topsOf S ↔ r ∈ (topsOf S).take k ∨ r ∈ (topsOf S).drop k := by rw [← List.mem_append, List.take_append_drop]
    rw [this]
    simp only [List.mem_append, List.mem_singleton]
    constructor
    · rintro ((h | h) | h)
      · exact .inr (.inl h)
      · exact .inl h
      · exact .inr (.inr h)
    · rintro (h | h | h)
      · exact .inl (.inr h)
      · exact .inl (.inl h)
      · exact .inr h
  rw [hm, tops_iff S r, tops_iff (S ++ [x]) r]
  constructor
  · rintro (rfl | ⟨h3, h4⟩)
    · refine ⟨List.mem_append_right _ (by simp), fun q hq hqr => ?_⟩
      rcases List.mem_append.1 hq with hq | hq
      · exact absurd hqr (hno' q hq)
      · rw [List.mem_singleton.1 hq, lin_cmpV.self]; decide
    · refine ⟨List.mem_append_left _ h3, fun q hq hqr => ?_⟩
      rcases List.mem_append.1 hq with hq | hq
      · exact h4 q hq hqr
      · rw [List.mem_singleton.1 hq] at hqr
        exact absurd hqr.symm (hno' r h3)
  · rintro ⟨h3, h4⟩
    rcases List.mem_append.1 h3 with h3 | h3
    · exact .inr ⟨h3, fun q hq hqr => h4 q (List.mem_append_left _ hq) hqr⟩
    · exact .inl (List.mem_singleton.1 h3)
end Go.Vx
namespace Go.Vx.Z
open Go Go.Vx
set_option linter.unusedVariables false
set_option maxRecDepth 100000
theorem F50_is (a b : Ver) (ha : okV a = true) (hb : okV b = true) : F50 ([a, b], ()) = some ((if cmpV b a > 0 then b else a).1, (if cmpV b a > 0 then b else a).2.1, (if cmpV b a > 0 then b else a).2.2.1, (if cmpV b a > 0 then b else a).2.2.2.1, ()) := by
  have h0 : B50_0 ([a, b], Int.ofNat 0, Int.ofNat 0, Int.ofNat 0, Int.ofNat 0, lit [], Int.ofNat 0, Int.ofNat 0, Int.ofNat 0, lit [], ()) = some (.inl ([a, b], ((1 : Nat) : Int), Int.ofNat 0, Int.ofNat 0, Int.ofNat 0, lit [], a.1, a.2.1, a.2.2.1, a.2.2.2.1, ())) := by
    rw [B50_0_eq]; rfl
  have hF := F21_is b a hb ha
  have h1 : B50_0 ([a, b], ((1 : Nat) : Int), Int.ofNat 0, Int.ofNat 0, Int.ofNat 0, lit [], a.1, a.2.1, a.2.2.1, a.2.2.2.1, ()) = some (.inl ([a, b], ((2 : Nat) : Int), Int.ofNat 0, Int.ofNat 0, Int.ofNat 0, lit [], (if cmpV b a > 0 then b else a).1, (if cmpV b a > 0 then b else a).2.1, (if cmpV b a > 0 then b else a).2.2.1, (if cmpV b a > 0 then b else a).2.2.2.1, ())) := by
    rw [B50_0_eq]
    show Option.bind (F21 (b.1, b.2.1, b.2.2.1, b.2.2.2.1, a.1, a.2.1, a.2.2.1, a.2.2.2.1, ())) _ = _
    rw [hF, Option.bind_some]
    by_cases hc : cmpV b a > 0
    · have : decide (cmpV b a > Int.ofNat 0) = true := by simpa using hc
      simp only [this, if_pos hc]
      rfl
    · have : decide (cmpV b a > Int.ofNat 0) = false := by simpa using hc
      simp only [this, if_neg hc]
      rfl
  rw [F50_eq, loop_step h0 (loop_step h1 (loop_end (by rw [B50_0_eq]; rfl))), Option.bind_some]
section
variable (md : ByteArray) (rq ex : List Req) (sw : List Swp) (w : List Mod) (rv : List Rev)
theorem B22_0_is (l : List Req) (i : Nat) (hi : i < l.length) (out : List Blt) (hn : out.length ≤ 1000000) :
    ∃ k : Nat, loop B22_0 ((i : Int), Int.ofNat out.length, md, rq, ex, sw, l, out, ()) = some ((i : Int), (k : Int), md, rq, ex, sw, l, out, ()) ∧ k ≤ out.length ∧ (∀ j (hj : j < out.length), k ≤ j → cmpT (bs l[i].1) (bs out[j].1) = -1) ∧ ∀ j (hj : j < out.length), j + 1 = k → cmpT (bs l[i].1) (bs out[j].1) ≠ -1 := by
  obtain ⟨e, h1, k, h2, h3, h4, h5⟩ := loop_inv (B := B22_0) (fun p => ∃ k : Nat, k ≤ out.length ∧ (∀ j (hj : j < out.length), k ≤ j → cmpT (bs l[i].1) (bs out[j].1) = -1) ∧ p = ((i : Int), (k : Int), md, rq, ex, sw, l, out, ())) (fun p => p.2.1.toNat) (fun e => ∃ k : Nat, k ≤ out.length ∧ (∀ j (hj : j < out.length), k ≤ j → cmpT (bs l[i].1) (bs out[j].1) = -1) ∧ (∀ j (hj : j < out.length), j + 1 = k → cmpT (bs l[i].1) (bs out[j].1) ≠ -1) ∧ e = ((i : Int), (k : Int), md, rq, ex, sw, l, out, ())) (by
      rintro p ⟨k, hk, hab, rfl⟩
      rw [B22_0_eq]
      by_cases h0 : 0 < k
      · have hk1 : k - 1 < out.length := by omega
        have e1 : (decide (Int.ofNat 0 ≤ ((k - 1 : Nat) : Int)) && decide (((k - 1 : Nat) : Int) < Int.ofNat out.length)) = true := lt_both hk1
        rw [show decide ((k : Int) > Int.ofNat 0) = true by simp; omega, wrap_prev h0 (show k ≤ 1000000 by omega) (by omega), e1, ge_zero, at_in hi, at_in hk1]
        simp only [cond_true, Option.bind_some]
        rw [bytesLess_eq, bs_toList, bs_toList]
        cases hd : decide (cmpT (bs l[i].1) (bs out[k - 1].1) = -1) with
        | true =>
          refine .inl ⟨_, rfl, ⟨k - 1, by omega, fun j hj hkj => ?_, rfl⟩, by simp; omega⟩
          by_cases he : j = k - 1
          · subst he; exact of_decide_eq_true hd
          · exact hab j hj (by omega)
        | false =>
          refine .inr ⟨_, rfl, k, hk, hab, fun j hj hjk => ?_, rfl⟩
          have : j = k - 1 := by omega
          subst this
          exact of_decide_eq_false hd
      · have : k = 0 := by omega
        subst this
        exact .inr ⟨_, rfl, 0, hk, hab, fun j hj h => by omega, rfl⟩) ((i : Int), Int.ofNat out.length, md, rq, ex, sw, l, out, ()) ⟨out.length, Nat.le_refl _, fun j hj h => by omega, rfl⟩
  exact ⟨k, by rw [h1, h5], h2, h3, h4⟩
theorem list_step (hs : sw.length ≤ big) (l : List Req) (hl : ∀ r ∈ l, okR r = true) (hn : l.length ≤ 1000000) (i : Nat) (hi : i < l.length) :
    B22_1 ((i : Int), md, rq, ex, sw, l, (topsOf (l.take i)).map (mkB sw), ()) = some (.inl (((i + 1 : Nat) : Int), md, rq, ex, sw, l, (topsOf (l.take (i + 1))).map (mkB sw), ())) := by
  have htk : l.take (i + 1) = l.take i ++ [l[i]] := by rw [List.take_succ_eq_append_getElem hi]
  have hsub : ∀ r ∈ topsOf (l.take i), r ∈ l := fun r hr => List.mem_of_mem_take ((tops_iff _ r).1 hr).1
  have hTn : (topsOf (l.take i)).length ≤ l.length := nodup_length (by
    rw [List.Nodup]
    refine (tops_asc (l.take i)).imp fun {a b} hab he => ?_
    rw [he, lin_cmpT.self] at hab
    cases hab) hsub
  have hlen : ((topsOf (l.take i)).map (mkB sw)).length = (topsOf (l.take i)).length := List.length_map _
  obtain ⟨k, h1, h2, h3, h4⟩ := B22_0_is md rq ex sw l i hi ((topsOf (l.take i)).map (mkB sw)) (by omega)
  have hpath : ∀ j (hj : j < ((topsOf (l.take i)).map (mkB sw)).length), (((topsOf (l.take i)).map (mkB sw))[j]).1 = ((topsOf (l.take i))[j]'(by omega)).1 := by
    intro j hj
    rw [List.getElem_map]
    rfl
  rw [htk]
  have hx := hl _ (List.getElem_mem hi)
  have h3' : ∀ j (hj : j < (topsOf (l.take i)).length), k ≤ j → cmpT (bs l[i].1) (bs (topsOf (l.take i))[j].1) = -1 := fun j hj hkj => by
    have := h3 j (by omega) hkj
    rwa [hpath] at this
  rw [B22_1_eq, lt_in hi, cond_true, h1, Option.bind_some]
  simp only
  rw [wrap_next hi (by omega)]
  have hkT : k ≤ (topsOf (l.take i)).length := by omega
  have c1 : (decide (Int.ofNat 0 ≤ (k : Int)) && (decide ((k : Int) ≤ Int.ofNat ((topsOf (l.take i)).map (mkB sw)).length) && decide (Int.ofNat ((topsOf (l.take i)).map (mkB sw)).length ≤ Int.ofNat ((topsOf (l.take i)).map (mkB sw)).length))) = true := by simp; omega
  have c2 : decide (0 + (List.drop 0 (List.take (0 + Int.toNat (k : Int)) ((topsOf (l.take i)).map (mkB sw)))).length ≤ 1256584717458) = true := by simp; omega
  have c3 : ∀ z : Blt, decide (([] ++ List.drop 0 (List.take (0 + Int.toNat (k : Int)) ((topsOf (l.take i)).map (mkB sw)))).length + [z].length ≤ 1256584717458) = true := by intro z; simp; omega
  have c4 : (decide (Int.ofNat 0 ≤ (k : Int)) && (decide ((k : Int) ≤ Int.ofNat ((topsOf (l.take i)).map (mkB sw)).length) && (decide (Int.ofNat ((topsOf (l.take i)).map (mkB sw)).length ≤ Int.ofNat ((topsOf (l.take i)).map (mkB sw)).length) && decide (Int.ofNat ((topsOf (l.take i)).map (mkB sw)).length ≤ Int.ofNat ((topsOf (l.take i)).map (mkB sw)).length)))) = true := by simp; omega
  have c5 : ∀ z : Blt, decide (([] ++ List.drop 0 (List.take (0 + Int.toNat (k : Int)) ((topsOf (l.take i)).map (mkB sw))) ++ [z]).length + (List.drop (0 + Int.toNat (k : Int)) (List.take (0 + Int.toNat (Int.ofNat ((topsOf (l.take i)).map (mkB sw)).length)) ((topsOf (l.take i)).map (mkB sw)))).length ≤ 1256584717458) = true := by intro z; simp; omega
  have hins : (∀ j (hj : j < (topsOf (l.take i)).length), j + 1 = k → cmpT (bs (topsOf (l.take i))[j].1) (bs l[i].1) = -1) → [] ++ List.drop 0 (List.take (0 + Int.toNat (k : Int)) ((topsOf (l.take i)).map (mkB sw))) ++ [mkB sw l[i]] ++ List.drop (0 + Int.toNat (k : Int)) (List.take (0 + Int.toNat (Int.ofNat ((topsOf (l.take i)).map (mkB sw)).length)) ((topsOf (l.take i)).map (mkB sw))) = (topsOf (l.take i ++ [l[i]])).map (mkB sw) := fun hlo => by
    rw [← tops_ins (l.take i) l[i] k hkT h3' hlo]
    simp [List.map_append, List.map_take, List.map_drop]
    rw [List.take_of_length_le (by simp)]
  have hsw : ∀ s, swapOf sw l[i].1 = s → mkB sw l[i] = (l[i].1, l[i].2.1, l[i].2.2.1, l[i].2.2.2.1, l[i].2.2.2.2.1, s.elim (lit [], 0, 0, 0, lit [], ()) fun y => y.2) := by
    rintro s rfl; rfl
  by_cases hk0 : 0 < k
  · have hk1 : k - 1 < (topsOf (l.take i)).length := by omega
    have hk1' : k - 1 < ((topsOf (l.take i)).map (mkB sw)).length := by omega
    rw [show decide ((k : Int) > Int.ofNat 0) = true by simp; omega, wrap_prev hk0 (show k ≤ 1000000 by omega) (by omega), lt_both hk1', at_in hk1', at_in hi, ge_zero]
    simp only [cond_true, Option.bind_some, beq_bs]
    have hpk := hpath (k - 1) hk1'
    cases hp : (bs (((topsOf (l.take i)).map (mkB sw))[k - 1]).1 == bs l[i].1) with
    | true =>
      have hpe : (topsOf (l.take i))[k - 1].1 = l[i].1 := by rw [← hpk]; exact bs_eq.1 hp
      have hy : ((topsOf (l.take i)).map (mkB sw))[k - 1] = mkB sw (topsOf (l.take i))[k - 1] := List.getElem_map _
      rw [hy]
      have hF := F50_is (topsOf (l.take i))[k - 1].2 l[i].2 (okR_v (hl _ (hsub _ (List.getElem_mem hk1)))) (okR_v hx)
      simp only [cond_true]
      have hF' : F50 ([((mkB sw (topsOf (l.take i))[k - 1]).2.1, (mkB sw (topsOf (l.take i))[k - 1]).2.2.1, (mkB sw (topsOf (l.take i))[k - 1]).2.2.2.1, (mkB sw (topsOf (l.take i))[k - 1]).2.2.2.2.1, ()), (l[i].2.1, l[i].2.2.1, l[i].2.2.2.1, l[i].2.2.2.2.1, ())], ()) = _ := hF
      rw [hF', Option.bind_some, ← tops_upd (l.take i) l[i] (k - 1) hk1 hpe, List.map_set]
      simp only [Int.toNat_natCast]
      have : mkB sw (l[i].1, if cmpV l[i].2 (topsOf (l.take i))[k - 1].2 > 0 then l[i].2 else (topsOf (l.take i))[k - 1].2) = ((mkB sw (topsOf (l.take i))[k - 1]).1, (if cmpV l[i].2 (topsOf (l.take i))[k - 1].2 > 0 then l[i].2 else (topsOf (l.take i))[k - 1].2).1, (if cmpV l[i].2 (topsOf (l.take i))[k - 1].2 > 0 then l[i].2 else (topsOf (l.take i))[k - 1].2).2.1, (if cmpV l[i].2 (topsOf (l.take i))[k - 1].2 > 0 then l[i].2 else (topsOf (l.take i))[k - 1].2).2.2.1, (if cmpV l[i].2 (topsOf (l.take i))[k - 1].2 > 0 then l[i].2 else (topsOf (l.take i))[k - 1].2).2.2.2.1, (mkB sw (topsOf (l.take i))[k - 1]).2.2.2.2.2) := by
        unfold mkB
        simp only [hpe]
      rw [this]
    | false =>
      simp only [cond_false]
      have hlo : ∀ j (hj : j < (topsOf (l.take i)).length), j + 1 = k → cmpT (bs (topsOf (l.take i))[j].1) (bs l[i].1) = -1 := fun j hj hjk => by
        have hj' : j = k - 1 := by omega
        subst hj'
        have h5 := h4 (k - 1) hk1' hjk
        rw [hpk] at h5
        have h6 : cmpT (bs (topsOf (l.take i))[k - 1].1) (bs l[i].1) ≠ 0 := fun h => by
          have := bs_inj ((lin_cmpT.eq0 _ _).1 h)
          rw [hpk, bs_eq.2 this] at hp
          cases hp
        have h7 := lin_cmpT.anti (bs l[i].1) (bs (topsOf (l.take i))[k - 1].1)
        have h8 := lin_cmpT.rng (bs l[i].1) (bs (topsOf (l.take i))[k - 1].1)
        omega
      rw [← hins hlo, F51_is md rq ex sw l[i].1 hs, Option.bind_some]
      cases hsw1 : swapOf sw l[i].1 with
      | none =>
        simp only [Option.elim_none, cond_false]
        rw [c1, c2, c3, c4, c5, hsw _ hsw1]
        rfl
      | some s =>
        simp only [Option.elim_some, cond_true]
        rw [c1, c2, c3, c4]
        erw [c5]
        rw [hsw _ hsw1]
        rfl
  · have hk00 : k = 0 := by omega
    rw [show decide ((k : Int) > Int.ofNat 0) = false by simp; omega, at_in hi, ge_zero]
    simp only [cond_false, cond_true, Option.bind_some]
    rw [← hins (fun j hj h => by omega), F51_is md rq ex sw l[i].1 hs, Option.bind_some]
    have c1' : (true && (decide ((k : Int) ≤ Int.ofNat ((topsOf (l.take i)).map (mkB sw)).length) && decide (Int.ofNat ((topsOf (l.take i)).map (mkB sw)).length ≤ Int.ofNat ((topsOf (l.take i)).map (mkB sw)).length))) = true := by simp; omega
    have c4' : (true && (decide ((k : Int) ≤ Int.ofNat ((topsOf (l.take i)).map (mkB sw)).length) && (decide (Int.ofNat ((topsOf (l.take i)).map (mkB sw)).length ≤ Int.ofNat ((topsOf (l.take i)).map (mkB sw)).length) && decide (Int.ofNat ((topsOf (l.take i)).map (mkB sw)).length ≤ Int.ofNat ((topsOf (l.take i)).map (mkB sw)).length)))) = true := by simp; omega
    cases hsw1 : swapOf sw l[i].1 with
    | none =>
      simp only [Option.elim_none, cond_false]
      first | rw [c1, c2, c3, c4, c5, hsw _ hsw1] | rw [c1', c2, c3, c4', c5, hsw _ hsw1]
      rfl
    | some s =>
      simp only [Option.elim_some, cond_true]
      first | rw [c1, c2, c3, c4] | rw [c1', c2, c3, c4']
      erw [c5]
      rw [hsw _ hsw1]
      rfl
theorem list_loop (hs : sw.length ≤ big) (l : List Req) (hl : ∀ r ∈ l, okR r = true) (hn : l.length ≤ 1000000) :
    loop B22_1 (Int.ofNat 0, md, rq, ex, sw, l, [], ()) = some (builtOf sw l, ()) := by
  have := loop_row (B := B22_1) (fun i => ((i : Int), md, rq, ex, sw, l, (topsOf (l.take i)).map (mkB sw), ())) l.length (e := (builtOf sw l, ())) (fun i hi => list_step md rq ex sw hs l hl hn i hi) (by
    simp only
    rw [B22_1_eq, lt_out, List.take_length]
    rfl)
  exact this
end
end Go.Vx.Z
/-! List is the document's: of a world that is made. -/
namespace Go.Vx.Z
open Go Go.Vx
set_option linter.unusedVariables false
set_option maxRecDepth 100000
theorem verL_rises (k : Nat) (h : k < 7) : (verL k).Pairwise fun a b => cmpV a b = -1 := by
  match k, h with
  | 0, _ | 1, _ | 2, _ | 3, _ | 4, _ | 5, _ | 6, _ => decide +kernel
theorem made_vers {n : Nat} {w : List Mod} (h : Made n w) (p : ByteArray) : versOf w p = [] ∨ ∃ k, k < 7 ∧ k < n ∧ p = pathsL.getD k (lit []) ∧ versOf w p = verL k := by
  unfold versOf relsOf
  cases hm : modOf w p with
  | none => exact .inl rfl
  | some m =>
    obtain ⟨k, h1, h2, h3, h4, _⟩ := made_of h (modOf_mem hm)
    refine .inr ⟨k, h1, h2, ?_, h4⟩
    rw [← h3]
    have := List.find?_some hm
    exact (bs_eq.1 this).symm
theorem made_okD {n : Nat} {w : List Mod} (h : Made n w) {md : ByteArray} {ex : List Req} {sw : List Swp} (he : ex.length ≤ 1000) (hs : sw.length ≤ 1000) (hmd : ∀ s ∈ sw, s.1 ≠ md) : okD md ex sw w := by
  have hS := made_small h
  refine ⟨small_ok ex sw w hS he hs, fun p => ?_, fun p => ?_, fun m hm y hy => ?_, hmd⟩
  · rcases made_vers h p with e | ⟨k, hk, _, _, e⟩
    · rw [e]; exact .nil
    · rw [e]; exact verL_rises k hk
  · rcases made_vers h p with e | ⟨k, hk, _, _, e⟩
    · rw [e]; simp
    · rw [e]
      have := verL_len k
      omega
  · have := hS.reqs m hm y hy
    omega
section
variable (md : ByteArray) (rq ex : List Req) (sw : List Swp) (w : List Mod) (rv : List Rev)
theorem allOf_asc : ∀ (l : List Req), (l.Pairwise fun x y => cmpT (bs x.1) (bs y.1) = -1) → (allOf md ex sw w l).2.Pairwise fun x y => cmpT (bs x.1) (bs y.1) = -1
  | [], _ => by simp [allOf]
  | r :: l, h => by
    have ih := allOf_asc l (List.pairwise_cons.1 h).2
    simp only [allOf]
    split
    · split
      · cases hs : (saidOf md ex sw w r).2 with
        | none => simpa using ih
        | some q =>
          simp only [Option.toList_some, List.singleton_append, List.pairwise_cons]
          refine ⟨fun x hx => ?_, ih⟩
          obtain ⟨y, h1, h2⟩ := allOf_mem md ex sw w _ _ hx
          rw [(saidOf_path md ex sw w _ _ hs).1, (saidOf_path md ex sw w _ _ h2).1]
          exact (List.pairwise_cons.1 h).1 y h1
      · exact .nil
    · exact .nil
theorem path_asc {l : List Req} (h : l.Pairwise fun x y => cmpT (bs x.1) (bs y.1) = -1) : l.Pairwise fun x y => cmpR x y = -1 := by
  refine h.imp fun {a b} hab => ?_
  show orC (cmpT (bs a.1) (bs b.1)) (cmpV a.2 b.2) = -1
  rw [hab]
  rfl
theorem walk_start (l : List Req) (n : Nat) (hn : n ≤ 1000000) : loop B49_0 (Int.ofNat 0, w, rv, md, rq, ex, sw, l, List.replicate l.length (Int.ofNat 0), ()) = some (w, rv, md, rq, ex, sw, l, List.replicate l.length (-1 : Int), ()) ∨ 1000000 < l.length := by
  by_cases hl : l.length ≤ 1000000
  · left
    have := loop_row (B := B49_0) (fun i => ((i : Int), w, rv, md, rq, ex, sw, l, List.replicate i (-1 : Int) ++ List.replicate (l.length - i) (Int.ofNat 0), ())) l.length (e := (w, rv, md, rq, ex, sw, l, List.replicate l.length (-1 : Int), ())) (fun i hi => by
      have hlen : (List.replicate i (-1 : Int) ++ List.replicate (l.length - i) (Int.ofNat 0)).length = l.length := by simp; omega
      have hi' : i < (List.replicate i (-1 : Int) ++ List.replicate (l.length - i) (Int.ofNat 0)).length := by omega
      have hset : (List.replicate i (-1 : Int) ++ List.replicate (l.length - i) (Int.ofNat 0)).set (Int.toNat (i : Int)) (Int.negSucc 0) = List.replicate (i + 1) (-1 : Int) ++ List.replicate (l.length - (i + 1)) (Int.ofNat 0) := by
        rw [Int.toNat_natCast, List.set_append_right _ _ (by simp), List.length_replicate, Nat.sub_self, show l.length - i = (l.length - (i + 1)) + 1 by omega, List.replicate_succ, List.set_cons_zero, List.replicate_succ', List.append_assoc]
        rfl
      rw [B49_0_eq, lt_in hi, lt_both hi', at_in hi', wrap_next hi (by omega), hset]
      rfl) (by
      simp only
      rw [B49_0_eq, lt_out, Nat.sub_self]
      simp)
    simpa using this
  · right; omega
/-- The walk: an error, or what comes up, in turn, with who asked first. -/
theorem F49_is (hS : Small w) (hD : okD md ex sw w) (he : ex.length ≤ 1000) (hs : sw.length ≤ 1000) (hr : rq.length ≤ 1000) (hrq : ∀ r ∈ rq, okR r = true) (hasc : rq.Pairwise fun x y => cmpT (bs x.1) (bs y.1) = -1) :
    ((allOf md ex sw w rq).1 ≠ 0 → F49 (w, rv, md, rq, ex, sw, ()) = some ((allOf md ex sw w rq).1, [], [], ())) ∧
    ((allOf md ex sw w rq).1 = 0 → ∀ e o, Bfs (asksOf md ex sw w) [] (allOf md ex sw w rq).2 e o → (e ≠ 0 → F49 (w, rv, md, rq, ex, sw, ()) = some (e, [], [], ())) ∧
      (e = 0 → ∃ fr, F49 (w, rv, md, rq, ex, sw, ()) = some (0, o, fr, ()) ∧ fr.length = o.length ∧ o.length ≤ 22000 ∧ ∀ k f, fr[k]? = some f → Par (asksOf md ex sw w) (allOf md ex sw w rq).2 o k f)) := by
  have h58 := F58_is md rq ex sw w rv hD rq hrq (by omega)
  have hal := allOf_len md ex sw w rq
  have hml := may_len rq w hS hr
  rw [F49_eq, h58, Option.bind_some]
  constructor
  · intro h0
    rw [if_neg h0]
    have hb' : (!(allOf md ex sw w rq).1 == Int.ofNat 0) = true := by
      rw [Bool.not_eq_true', ← Bool.not_eq_true]
      exact fun h => h0 (by simpa using h)
    simp only [hb']
    rfl
  · intro h0 e o hB
    rw [if_pos h0]
    simp only
    have hq0 := allOf_asc md ex sw w rq hasc
    have hnorm : normOf (allOf md ex sw w rq).2 = (allOf md ex sw w rq).2 := (norm_eq (path_asc hq0) fun x => Iff.rfl).symm
    have hnd : (allOf md ex sw w rq).2.Nodup := by
      rw [List.Nodup]
      refine hq0.imp fun {a b} hab hE => ?_
      rw [hE, lin_cmpT.self] at hab
      cases hab
    have c1 : ∀ n : Nat, n ≤ 1000 → (decide (Int.ofNat 0 ≤ Int.ofNat n) && (decide (Int.ofNat n ≤ Int.ofNat n) && decide (Int.ofNat 8 * Int.ofNat n ≤ Int.ofNat 281474976710656) && decide (Int.ofNat n ≤ Int.ofNat 9223372036854775807))) = true := by
      intro n hn
      simp only [Bool.and_eq_true, decide_eq_true_eq, Int.ofNat_eq_natCast]
      omega
    rw [hnorm, show (!(0 : Int) == Int.ofNat 0) = false from rfl, cond_false, c1 _ (by omega), cond_true]
    have hst := (walk_start md rq ex sw w rv (allOf md ex sw w rq).2 0 (by omega)).resolve_right (by omega)
    rw [show Int.toNat (Int.ofNat (allOf md ex sw w rq).2.length) = (allOf md ex sw w rq).2.length from rfl, hst, Option.bind_some]
    simp only
    have hM : ∀ r, (asksOf md ex sw w r).2.length ≤ 10 := asksOf_len md ex sw w 10 hS.reqs
    have hU : ∀ r, Reach md ex sw w rq r → r ∈ mayCome w rq := reach_may md rq ex sw w
    have hP : ∀ r a, Reach md ex sw w rq r → a ∈ (asksOf md ex sw w r).2 → Reach md ex sw w rq a := fun r a h1 h2 => .step h1 h2
    have hrun := walk_run md rq ex sw w rv hD (L := 22000) (by omega) hM (by omega) (q0 := (allOf md ex sw w rq).2) hU hml hP hB 0 (allOf md ex sw w rq).2 (List.replicate (allOf md ex sw w rq).2.length (-1)) (by rw [newOf_self _ _ (by simpa using hnd)]; rfl) rfl (by simp) hnd (fun r hr => .base hr) (fun k f hk => by
      rw [List.getElem?_replicate] at hk
      split at hk
      · rename_i hlt
        injection hk with hk
        exact ⟨_, List.getElem?_eq_getElem hlt, .inl ⟨hk.symm, List.getElem_mem hlt⟩⟩
      · cases hk) (fun r hr => hr) (fun j y hj => by omega)
    constructor
    · intro hne
      have h1 := hrun.1 hne
      have h1' : loop B49_2 (Int.ofNat 0, w, rv, md, rq, ex, sw, (allOf md ex sw w rq).2, List.replicate (allOf md ex sw w rq).2.length (-1 : Int), ()) = _ := h1
      rw [h1', Option.bind_some]
      rfl
    · intro hz
      obtain ⟨fr, h1, h2⟩ := hrun.2 hz
      have h1' : loop B49_2 (Int.ofNat 0, w, rv, md, rq, ex, sw, (allOf md ex sw w rq).2, List.replicate (allOf md ex sw w rq).2.length (-1 : Int), ()) = _ := h1
      refine ⟨fr, ?_, h2⟩
      rw [h1', Option.bind_some]
      rfl
/-- List: the program's and the document's tell the same. -/
theorem F22_is (hS : Small w) (hD : okD md ex sw w) (he : ex.length ≤ 1000) (hs : sw.length ≤ 1000) (hr : rq.length ≤ 1000) (hrq : ∀ r ∈ rq, okR r = true) (hasc : rq.Pairwise fun x y => cmpT (bs x.1) (bs y.1) = -1) (l : List Blt) (e : Int) (h : F19 (w, rv, md, rq, ex, sw, ()) = some (l, e, ())) :
    F22 (w, rv, md, rq, ex, sw, ()) = some (l, e, ()) := by
  have h49 := F49_is md rq ex sw w rv hS hD he hs hr hrq hasc
  have hrun := list_run md rq ex sw w rv hS he hs hr hrq
  rw [h] at hrun
  rw [F22_eq]
  rcases hrun with ⟨h0, _, h1⟩ | ⟨h0, e', o, hB, h1⟩
  · have h1' := Option.some.inj h1
    obtain ⟨rfl, h2⟩ := Prod.mk.inj h1'
    obtain ⟨rfl, _⟩ := Prod.mk.inj h2
    rw [h49.1 h0, Option.bind_some]
    have hb' : (!(allOf md ex sw w rq).1 == Int.ofNat 0) = true := by
      rw [Bool.not_eq_true', ← Bool.not_eq_true]
      exact fun h => h0 (by simpa using h)
    simp only [hb']
    rfl
  · obtain ⟨h3, h4⟩ := h49.2 h0 e' o hB
    rcases h1 with ⟨rfl, hF, h1⟩ | ⟨hne, _, h1⟩
    · have h1' := Option.some.inj h1
      obtain ⟨rfl, h2⟩ := Prod.mk.inj h1'
      obtain ⟨rfl, _⟩ := Prod.mk.inj h2
      obtain ⟨fr, h5, h6, h7, _⟩ := h4 rfl
      rw [h5, Option.bind_some]
      have hok : ∀ r ∈ o, okR r = true := by
        have hM : ∀ r, (asksOf md ex sw w r).2.length ≤ 10 := asksOf_len md ex sw w 10 hS.reqs
        have hml := may_len rq w hS hr
        obtain ⟨e2, o2, g3, g4⟩ := closed_ok md rq ex sw w rv hD.s hrq (by simp only [big]; omega) (mayCome w rq) 10 (reach_may md rq ex sw w) hM (by simp only [big]; omega)
        rw [hF] at g3
        injection g3 with g3
        obtain ⟨rfl, g5⟩ := Prod.mk.inj g3
        obtain ⟨rfl, _⟩ := Prod.mk.inj g5
        rcases g4 with ⟨_, _, _, g7, _⟩ | ⟨g6, _⟩
        · exact fun r hr => reach_ok md rq ex sw w hD.s hrq r ((g7 r).1 hr)
        · exact absurd rfl g6
      simp only
      rw [show (!(0 : Int) == Int.ofNat 0) = false from rfl, cond_false, list_loop md rq ex sw (by simp only [big]; omega) o hok (by omega), Option.bind_some]
      rfl
    · have h1' := Option.some.inj h1
      obtain ⟨rfl, h2⟩ := Prod.mk.inj h1'
      obtain ⟨rfl, _⟩ := Prod.mk.inj h2
      rw [h3 hne, Option.bind_some]
      have hb' : (!e == Int.ofNat 0) = true := by
        rw [Bool.not_eq_true', ← Bool.not_eq_true]
        exact fun h => hne (by simpa using h)
      simp only [hb']
      rfl
end
/-- Without a swap of it, the module itself does not come up. -/
theorem reach_own {md : ByteArray} {rq ex : List Req} {sw : List Swp} {w : List Mod} (h : ∀ s ∈ sw, s.1 ≠ md) : ∀ r, Reach md ex sw w rq r → r.1 ≠ md := by
  have key : ∀ r q : Req, (saidOf md ex sw w r).2 = some q → q.1 ≠ md := by
    intro r q hq
    rw [(saidOf_path md ex sw w r q hq).1]
    intro e
    unfold saidOf at hq
    have hsn : swapOf sw r.1 = none := by
      unfold swapOf
      rw [List.find?_eq_none]
      intro s hs' he
      exact h s hs' ((bs_eq.1 he).trans e)
    rw [hsn, if_neg (by simp), if_pos e] at hq
    cases hq
  intro r hr
  cases hr with
  | base hr =>
    obtain ⟨r', _, h2⟩ := allOf_mem md ex sw w _ _ hr
    exact key r' r h2
  | step _ ha =>
    obtain ⟨_, _, r', _, h2⟩ := asksOf_mem md ex sw w ha
    exact key r' _ h2
end Go.Vx.Z
