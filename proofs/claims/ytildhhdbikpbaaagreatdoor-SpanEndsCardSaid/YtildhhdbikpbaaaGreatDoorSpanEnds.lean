/- spans that touch are one; those between which one version lies are two -/
import Derived.Test.YtildhhdbikpbaaaGreatDoorV9
import Derived.Test.YtildhhdbikpbaaaGreatDoorV2
import Derived.Test.YtildhhdbikpbaaaGreatDoorRows
import Derived.Test.YtildhhdbikpbaaaGreatDoorTie
import Derived.Test.YtildhhdbikpbaaaGreatDoorCards
import Derived.Test.YtildhhdbikpbaaaGreatDoorV5
import Derived.WalkKit
import Derived.ProofKit
import Derived.OpenShut
import Derived.ShutString
import Derived.ChangeOld
import Derived.Below
import Derived.SizedLaws
import Derived.LaidMore
import Derived.Lay
import Derived.SevenTiedAt
import Derived.Stop.Joined
import Derived.KernelRfl
set_option linter.unusedSimpArgs false
/-! SpanEnds -/
namespace Go.Vx.Z
open Go Go.Vx
set_option linter.unusedVariables false
set_option maxRecDepth 100000
/-- Two in order. -/
def sw2 (p q : Ver) : Ver × Ver := if 0 < cmpV p q then (q, p) else (p, q)
def pass3 (t : Ver × Ver × Ver) : Ver × Ver × Ver := let u := sw2 t.1 t.2.1; let w := sw2 u.2 t.2.2; (u.1, w.1, w.2)
theorem B9_step (x0 x1 : Bool) (x2 : Int) (i : Nat) (ps : List Ver) (h : i + 1 < ps.length) (hl : ps.length = 3) (h1 : okV ps[i] = true) (h2 : okV ps[i + 1] = true) :
    B9_0 (x0, x1, x2, (i : Int), ps, ()) = some (.inl (x0, x1, x2, ((i + 1 : Nat) : Int), (ps.set i (sw2 ps[i] ps[i + 1]).1).set (i + 1) (sw2 ps[i] ps[i + 1]).2, ())) := by
  have hi : i < ps.length := by omega
  have e1 : decide ((i : Int) < Int.ofNat 2) = true := decide_eq_true (by show (i : Int) < 2; omega)
  have hw := wrap_next hi (show ps.length ≤ 9223372036854775807 by omega)
  have hc : F26 (ps[i].1, ps[i].2.1, ps[i].2.2.1, ps[i].2.2.2.1, ps[i + 1].1, ps[i + 1].2.1, ps[i + 1].2.2.1, ps[i + 1].2.2.2.1, ()) = some (cmpV ps[i] ps[i + 1], ()) := F26_is _ _ h1 h2
  have hls : ∀ z : Ver, decide (((i + 1 : Nat) : Int) < Int.ofNat (ps.set i z).length) = true := fun z => lt_in (by rw [List.length_set]; exact h)
  have hat : ∀ z : Ver, (ps.set i z)[Int.toNat ((i + 1 : Nat) : Int)]? = some ps[i + 1] := fun z => by
    rw [Int.toNat_natCast, List.getElem?_set_ne (by omega), List.getElem?_eq_getElem h]
  have hn : Int.toNat (i : Int) = i := Int.toNat_natCast i
  rw [B9_0_eq]
  simp only [e1, hw, lt_in hi, lt_in h, ge_zero, Bool.and_self, cond_true, at_in hi, at_in h, obs, hc]
  unfold sw2
  by_cases hlt : 0 < cmpV ps[i] ps[i + 1]
  · have e2 : decide (cmpV ps[i] ps[i + 1] > Int.ofNat 0) = true := decide_eq_true hlt
    rw [e2, if_pos hlt]
    simp only [cond_true, hls, hat, obs, hn]
    rfl
  · have e2 : decide (cmpV ps[i] ps[i + 1] > Int.ofNat 0) = false := decide_eq_false hlt
    rw [e2, if_neg hlt]
    simp only [cond_false]
    have e3 : (ps.set i ps[i]).set (i + 1) ps[i + 1] = ps := by
      rw [List.set_getElem_self]
      exact List.set_getElem_self _
    rw [e3]
theorem sw2_ok {p q : Ver} (hp : okV p = true) (hq : okV q = true) : okV (sw2 p q).1 = true ∧ okV (sw2 p q).2 = true := by
  unfold sw2
  split
  · exact ⟨hq, hp⟩
  · exact ⟨hp, hq⟩
theorem pass_is (x0 x1 : Bool) (x2 : Int) (t : Ver × Ver × Ver) (h1 : okV t.1 = true) (h2 : okV t.2.1 = true) (h3 : okV t.2.2 = true) :
    loop B9_0 (x0, x1, x2, Int.ofNat 0, [t.1, t.2.1, t.2.2], ()) = some (x0, x1, x2, [(pass3 t).1, (pass3 t).2.1, (pass3 t).2.2], ()) := by
  obtain ⟨a, b, c⟩ := t
  simp only at h1 h2 h3
  have s1 := B9_step x0 x1 x2 0 [a, b, c] (by simp) rfl h1 h2
  have ok := sw2_ok h1 h2
  have s2 := B9_step x0 x1 x2 1 [(sw2 a b).1, (sw2 a b).2, c] (by simp) rfl ok.2 h3
  refine loop_step s1 (loop_step s2 (loop_end ?_))
  rw [B9_0_eq]
  rfl
theorem cmp_pt (p q : Ver) : 0 < cmpV p q ↔ ptV q < ptV p := by
  have h := lt_pt q p false false
  have h2 : (decide (cmpV q p < 0) || cmpV q p == 0 && (!false && false)) = decide (0 < cmpV p q) := by
    rw [cmpV_swap p q]
    rcases lin_cmpV.rng p q with e | e | e <;> rw [e] <;> rfl
  rw [h2] at h
  exact ⟨fun h3 => of_decide_eq_true (h.trans (decide_eq_true h3)), fun h3 => of_decide_eq_true (h.symm.trans (decide_eq_true h3))⟩
theorem sw2_pt (p q : Ver) : ptV (sw2 p q).1 ≤ ptV (sw2 p q).2 ∧ ((sw2 p q = (p, q) ∧ ptV p ≤ ptV q) ∨ (sw2 p q = (q, p) ∧ ptV q < ptV p)) := by
  unfold sw2
  by_cases h : 0 < cmpV p q
  · rw [if_pos h]
    have := (cmp_pt p q).1 h
    exact ⟨by grind, .inr ⟨rfl, this⟩⟩
  · rw [if_neg h]
    have h2 : ¬ ptV q < ptV p := fun h3 => h ((cmp_pt p q).2 h3)
    exact ⟨by grind, .inl ⟨rfl, by grind⟩⟩
theorem pass_sorts (t : Ver × Ver × Ver) : let u := pass3 (pass3 (pass3 t)); ptV u.1 ≤ ptV u.2.1 ∧ ptV u.2.1 ≤ ptV u.2.2 := by
  have key : ∀ t : Ver × Ver × Ver, ptV (pass3 t).1 ≤ ptV (pass3 t).2.2 ∧ ptV (pass3 t).2.1 ≤ ptV (pass3 t).2.2 := by
    intro t
    obtain ⟨a, b, c⟩ := t
    have h1 := sw2_pt a b
    have h2 := sw2_pt (sw2 a b).2 c
    simp only [pass3]
    rcases h2.2 with ⟨e, h3⟩ | ⟨e, h3⟩ <;> rw [e] at h2 ⊢ <;> simp only at h2 ⊢ <;> grind
  have k2 : ∀ t : Ver × Ver × Ver, ptV t.1 ≤ ptV t.2.2 ∧ ptV t.2.1 ≤ ptV t.2.2 → ptV (pass3 t).1 ≤ ptV (pass3 t).2.1 ∧ ptV (pass3 t).2.1 ≤ ptV (pass3 t).2.2 := by
    intro t ht
    obtain ⟨a, b, c⟩ := t
    simp only at ht
    have h1 := sw2_pt a b
    have h2 := sw2_pt (sw2 a b).2 c
    simp only [pass3]
    rcases h1.2 with ⟨e, h3⟩ | ⟨e, h3⟩ <;> rw [e] at h1 h2 ⊢ <;> simp only at h1 h2 ⊢ <;> rcases h2.2 with ⟨f, h4⟩ | ⟨f, h4⟩ <;> rw [f] at h2 ⊢ <;> simp only at h2 ⊢ <;> grind
  have h1 := k2 (pass3 t) (key t)
  exact k2 (pass3 (pass3 t)) ⟨by grind, h1.2⟩
theorem pass_ok {t : Ver × Ver × Ver} (h : okV t.1 = true ∧ okV t.2.1 = true ∧ okV t.2.2 = true) : okV (pass3 t).1 = true ∧ okV (pass3 t).2.1 = true ∧ okV (pass3 t).2.2 = true := by
  obtain ⟨h1, h2, h3⟩ := h
  have a := sw2_ok h1 h2
  have b := sw2_ok a.2 h3
  exact ⟨a.1, b.1, b.2⟩
theorem sort3_is (x0 x1 : Bool) (t : Ver × Ver × Ver) (h : okV t.1 = true ∧ okV t.2.1 = true ∧ okV t.2.2 = true) :
    let u := pass3 (pass3 (pass3 t)); loop B9_1 (x0, x1, Int.ofNat 0, [t.1, t.2.1, t.2.2], ()) = some (x0, x1, [u.1, u.2.1, u.2.2], ()) := by
  have st : ∀ (i : Nat) (t : Ver × Ver × Ver), i < 3 → okV t.1 = true ∧ okV t.2.1 = true ∧ okV t.2.2 = true → B9_1 (x0, x1, (i : Int), [t.1, t.2.1, t.2.2], ()) = some (.inl (x0, x1, ((i + 1 : Nat) : Int), [(pass3 t).1, (pass3 t).2.1, (pass3 t).2.2], ())) := by
    intro i t hi h
    have e1 : decide ((i : Int) < Int.ofNat 3) = true := decide_eq_true (by show (i : Int) < 3; omega)
    rw [B9_1_eq, e1, cond_true, pass_is x0 x1 _ t h.1 h.2.1 h.2.2, obs]
    simp only [wrap_next hi (show 3 ≤ 9223372036854775807 by omega)]
  have h1 := pass_ok h
  have h2 := pass_ok h1
  refine loop_step (st 0 t (by omega) h) (loop_step (st 1 _ (by omega) h1) (loop_step (st 2 _ (by omega) h2) (loop_end ?_)))
  rw [B9_1_eq]
  rfl
def spX (p q : Ver) (inn : Bool) : Span := (p.1, p.2.1, p.2.2.1, p.2.2.2.1, q.1, q.2.1, q.2.2.1, q.2.2.2.1, false, inn, false, ())
def spY (q r : Ver) (above : Bool) : Span := (q.1, q.2.1, q.2.2.1, q.2.2.2.1, r.1, r.2.1, r.2.2.1, r.2.2.2.1, above, false, false, ())
theorem kX (p q : Ver) (inn : Bool) : kOf (spX p q inn) = (ptV p, ptOf q inn false) := rfl
theorem kY (q r : Ver) (above : Bool) : kOf (spY q r above) = (ptOf q above false, ptV r) := rfl
theorem neg_of {p q : Ver} (h : ptV p < ptV q) : cmpV p q < 0 := by
  have h2 := (cmp_pt q p).2 h
  rw [cmpV_swap p q] at h2
  omega
theorem lt_b {p q : Ver} (a b : Bool) (h : ptV p < ptV q) : ptOf p a false < ptOf q b false := by
  have h2 := lt_pt p q a b
  have h3 := neg_of h
  rw [decide_eq_true h3] at h2
  exact of_decide_eq_true h2
theorem same_b (q : Ver) (a b : Bool) : decide (ptOf q a false ≤ ptOf q b false) = (!a || b) := by
  rw [le_pt, lin_cmpV.self]
  rfl
theorem nf_two (p q r : Ver) (inn above : Bool) (h1 : ptV p < ptV q) (h2 : ptV q < ptV r) :
    Pc.nf [kOf (spX p q inn), kOf (spY q r above)] = if (!above || inn) = true then [(ptV p, ptV r)] else [kOf (spX p q inn), kOf (spY q r above)] := by
  rw [kX, kY]
  have f1 : ptV p < ptOf q inn false := lt_b false inn h1
  have f2 : ptOf q above false < ptV r := lt_b above false h2
  have f3 : ptV p < ptOf q above false := lt_b false above h1
  have f4 : ptOf q inn false < ptV r := lt_b inn false h2
  have hs := Pc.sorted_nf (l := [(ptV p, ptOf q inn false), (ptOf q above false, ptV r)]) (s := [(ptV p, ptOf q inn false), (ptOf q above false, ptV r)]) (by
    have e : [(ptV p, ptOf q inn false), (ptOf q above false, ptV r)].filter Pc.full = [(ptV p, ptOf q inn false), (ptOf q above false, ptV r)] := by
      have g1 : Pc.full (ptV p, ptOf q inn false) = true := decide_eq_true f1
      have g2 : Pc.full (ptOf q above false, ptV r) = true := decide_eq_true f2
      rw [List.filter_cons_of_pos g1, List.filter_cons_of_pos g2, List.filter_nil]
    rw [e]) (by
    rw [List.pairwise_cons]
    refine ⟨fun z hz => ?_, List.pairwise_singleton _ _⟩
    rw [List.mem_singleton.1 hz]
    show ptV p ≤ ptOf q above false
    grind)
  rw [← hs]
  show (if ptOf q above false ≤ ptOf q inn false then (if ptOf q inn false < ptV r then [] ++ [(ptV p, ptV r)] else [(ptV p, ptOf q inn false)]) else [(ptV p, ptOf q inn false)] ++ [(ptOf q above false, ptV r)]) = _
  have h3 := same_b q above inn
  by_cases hc : (!above || inn) = true
  · rw [hc] at h3
    rw [if_pos (of_decide_eq_true h3), if_pos f4, if_pos hc]
    rfl
  · have h4 : ¬ ptOf q above false ≤ ptOf q inn false := fun h5 => hc (h3.symm.trans (decide_eq_true h5))
    rw [if_neg h4, if_neg hc]
    rfl
theorem nf_meet (p q r : Ver) (inn above : Bool) (h1 : ptV p < ptV q) (h2 : ptV q < ptV r) :
    Pc.nf (Pc.meets [kOf (spX p q inn)] [kOf (spY q r above)]) = if (inn && !above) = true then [(ptOf q above false, ptOf q inn false)] else [] := by
  rw [kX, kY]
  have f1 : ptV p < ptOf q above false := lt_b false above h1
  have f2 : ptOf q inn false < ptV r := lt_b inn false h2
  have e : Pc.meets [(ptV p, ptOf q inn false)] [(ptOf q above false, ptV r)] = [(ptOf q above false, ptOf q inn false)] := by
    show [(if ptV p < ptOf q above false then ptOf q above false else ptV p, if ptV r < ptOf q inn false then ptV r else ptOf q inn false)] = _
    rw [if_pos f1, if_neg (by grind)]
  rw [e]
  have h3 := same_b q inn above
  by_cases hc : (inn && !above) = true
  · have h4 : ¬ ptOf q inn false ≤ ptOf q above false := fun h5 => by
      have := h3.symm.trans (decide_eq_true h5)
      cases inn <;> cases above <;> simp at hc this
    rw [if_pos hc]
    exact Pc.nf_nm (Pc.nm_cons.2 ⟨by show ptOf q above false < ptOf q inn false; grind, by simp, by simp [Pc.Nm]⟩)
  · have h4 : ptOf q inn false ≤ ptOf q above false := of_decide_eq_true (h3.trans (by cases inn <;> cases above <;> simp at hc ⊢))
    rw [if_neg hc]
    have g1 : ¬ Pc.full (ptOf q above false, ptOf q inn false) = true := fun h5 => by
      have : ptOf q above false < ptOf q inn false := of_decide_eq_true h5
      grind
    unfold Pc.nf
    rw [List.filter_cons_of_neg g1, List.filter_nil, List.mergeSort_nil]
    rfl
def eqVb (y z : Ver) : Bool := y.1 == z.1 && (y.2.1 == z.2.1 && (y.2.2.1 == z.2.2.1 && bl y.2.2.2.1 == bl z.2.2.2.1))
theorem eqVb_iff {y z : Ver} : eqVb y z = true ↔ y = z := by
  obtain ⟨a, b, c, d, x⟩ := y
  obtain ⟨e, f, g, h, w⟩ := z
  simp only [eqVb, Bool.and_eq_true, beq_iff_eq, Prod.mk.injEq]
  exact ⟨fun ⟨h1, h2, h3, h4⟩ => ⟨h1, h2, h3, bs_inj h4, trivial⟩, fun ⟨h1, h2, h3, h4, _⟩ => ⟨h1, h2, h3, by rw [h4]⟩⟩
theorem ptV_inj {p q : Ver} (h : ptV p = ptV q) : p = q := by
  have : (ptV p).v = (ptV q).v := by rw [h]
  exact this
theorem or_two (p q r : Ver) (inn above : Bool) (hp : okV p = true) (hq : okV q = true) (hr : okV r = true) (h1 : ptV p < ptV q) (h2 : ptV q < ptV r) :
    F17 ([[spX p q inn], [spY q r above]], ()) = some (if (!above || inn) = true then [spX p r false] else [spX p q inn, spY q r above], ()) := by
  have hX : okS (spX p q inn) = true := by simp only [okS, Bool.and_eq_true]; exact ⟨hp, hq⟩
  have hY : okS (spY q r above) = true := by simp only [okS, Bool.and_eq_true]; exact ⟨hq, hr⟩
  rw [F17_is [[spX p q inn], [spY q r above]] (fun s hs => by
    have : s = spX p q inn ∨ s = spY q r above := by simpa using hs
    rcases this with rfl | rfl
    · exact hX
    · exact hY) (by show 2 ≤ big; decide) (by show 2 ≤ big; decide)]
  have e : (([[spX p q inn], [spY q r above]] : List (List Span)).flatten.map kOf) = [kOf (spX p q inn), kOf (spY q r above)] := rfl
  rw [e, nf_two p q r inn above h1 h2]
  split
  · rfl
  · rw [List.map_cons, List.map_cons, List.map_nil, spanP_kOf ⟨hX, fun h => by cases h⟩, spanP_kOf ⟨hY, fun h => by cases h⟩]
theorem and_two (p q r : Ver) (inn above : Bool) (hp : okV p = true) (hq : okV q = true) (hr : okV r = true) (h1 : ptV p < ptV q) (h2 : ptV q < ptV r) :
    ∃ R, F16 ([spX p q inn], [spY q r above], ()) = some (R, ()) ∧ R.length = if (inn && !above) = true then 1 else 0 := by
  have hX : okS (spX p q inn) = true := by simp only [okS, Bool.and_eq_true]; exact ⟨hp, hq⟩
  have hY : okS (spY q r above) = true := by simp only [okS, Bool.and_eq_true]; exact ⟨hq, hr⟩
  refine ⟨_, F16_is [spX p q inn] [spY q r above] (fun s hs => by rw [List.mem_singleton.1 hs]; exact hX) (fun s hs => by rw [List.mem_singleton.1 hs]; exact hY) (by show 1 ≤ 1000000; decide) (by show 1 ≤ 1000000; decide), ?_⟩
  have e1 : ([spX p q inn].map kOf) = [kOf (spX p q inn)] := rfl
  have e2 : ([spY q r above].map kOf) = [kOf (spY q r above)] := rfl
  rw [e1, e2, nf_meet p q r inn above h1 h2]
  split <;> rfl
theorem pure_SpanEnds (x0 x1 x2 x3 x4 x5 : Int) (x6 x7 : Bool) (h0 : (Lit.int .i64 x0).wf = true) (h1 : (Lit.int .i64 x1).wf = true) (h2 : (Lit.int .i64 x2).wf = true) (h3 : (Lit.int .i64 x3).wf = true) (h4 : (Lit.int .i64 x4).wf = true) (h5 : (Lit.int .i64 x5).wf = true) : F9 (x0, x1, x2, x3, x4, x5, x6, x7, ()) = some (true, ()) := by
  obtain ⟨u, fu, ou⟩ := F32_is x0 x1
  obtain ⟨v, fv, ov⟩ := F32_is x2 x3
  obtain ⟨w, fw, ow⟩ := F32_is x4 x5
  have hok : okV (u, v, w).1 = true ∧ okV (u, v, w).2.1 = true ∧ okV (u, v, w).2.2 = true := ⟨okMk_V ou, okMk_V ov, okMk_V ow⟩
  have hs := sort3_is x6 x7 (u, v, w) hok
  have hk := pass_ok (pass_ok (pass_ok hok))
  have ho := pass_sorts (u, v, w)
  simp only at hs ho
  generalize pass3 (pass3 (pass3 (u, v, w))) = t at *
  obtain ⟨p, q, r⟩ := t
  simp only at hs hk ho
  have hs' : loop B9_1 (x6, x7, Int.ofNat 0, [(u.1, u.2.1, u.2.2.1, u.2.2.2.1, ()), (v.1, v.2.1, v.2.2.1, v.2.2.2.1, ()), (w.1, w.2.1, w.2.2.1, w.2.2.2.1, ())], ()) = some (x6, x7, [p, q, r], ()) := hs
  rw [F9_eq]
  simp only [fu, fv, fw, obs, hs']
  have d0 : decide (Int.ofNat 0 < Int.ofNat [p, q, r].length) = true := rfl
  have d1 : decide (Int.ofNat 1 < Int.ofNat [p, q, r].length) = true := rfl
  have d2 : decide (Int.ofNat 2 < Int.ofNat [p, q, r].length) = true := rfl
  have a0 : [p, q, r][0]? = some p := rfl
  have a1 : [p, q, r][1]? = some q := rfl
  have a2 : [p, q, r][2]? = some r := rfl
  simp only [d0, d1, d2, a0, a1, a2, cond_true, obs]
  change (bif eqVb p q then _ else bif eqVb q r then _ else _) = _
  cases e1 : eqVb p q with
  | true => rfl
  | false =>
  cases e2 : eqVb q r with
  | true => rfl
  | false =>
  simp only [cond_false]
  have n1 : p ≠ q := fun h => by rw [eqVb_iff.2 h] at e1; cases e1
  have n2 : q ≠ r := fun h => by rw [eqVb_iff.2 h] at e2; cases e2
  have l1 : ptV p < ptV q := by
    have : ptV p ≠ ptV q := fun h => n1 (ptV_inj h)
    grind
  have l2 : ptV q < ptV r := by
    have : ptV q ≠ ptV r := fun h => n2 (ptV_inj h)
    grind
  have fo := or_two p q r x6 x7 hk.1 hk.2.1 hk.2.2 l1 l2
  obtain ⟨R, fa, la⟩ := and_two p q r x6 x7 hk.1 hk.2.1 hk.2.2 l1 l2
  have fo' : F17 ([[(p.1, p.2.1, p.2.2.1, p.2.2.2.1, q.1, q.2.1, q.2.2.1, q.2.2.2.1, false, x6, false, ())], [(q.1, q.2.1, q.2.2.1, q.2.2.2.1, r.1, r.2.1, r.2.2.1, r.2.2.2.1, x7, false, false, ())]], ()) = _ := fo
  have fa' : F16 ([(p.1, p.2.1, p.2.2.1, p.2.2.2.1, q.1, q.2.1, q.2.2.1, q.2.2.2.1, false, x6, false, ())], [(q.1, q.2.1, q.2.2.1, q.2.2.2.1, r.1, r.2.1, r.2.2.1, r.2.2.2.1, x7, false, false, ())], ()) = _ := fa
  rw [fo', obs]
  simp only [fa', obs]
  have same : ∀ z : Ver, (z.1 == z.1 && (z.2.1 == z.2.1 && (z.2.2.1 == z.2.2.1 && bl z.2.2.2.1 == bl z.2.2.2.1))) = true := fun z => eqVb_iff.2 rfl
  have hR : Int.ofNat R.length = if (x6 && !x7) = true then 1 else 0 := by rw [la]; split <;> rfl
  cases x6 with
  | true =>
    have : (!x7 || true) = true := by cases x7 <;> rfl
    rw [if_pos this]
    have b0 : (Int.ofNat ([spX p r false] : List Span).length == Int.ofNat 1) = true := rfl
    have b1 : ([spX p r false] : List Span)[0]? = some (spX p r false) := rfl
    simp only [cond_true, b0, b1, obs]
    have s1 : ((spX p r false).1 == p.1 && ((spX p r false).2.1 == p.2.1 && ((spX p r false).2.2.1 == p.2.2.1 && bl (spX p r false).2.2.2.1 == bl p.2.2.2.1))) = true := same p
    have s2 : ((spX p r false).2.2.2.2.1 == r.1 && ((spX p r false).2.2.2.2.2.1 == r.2.1 && ((spX p r false).2.2.2.2.2.2.1 == r.2.2.1 && bl (spX p r false).2.2.2.2.2.2.2.1 == bl r.2.2.2.1))) = true := same r
    have s3 : ((spX p r false).2.2.2.2.2.2.2.2.1 == false && ((spX p r false).2.2.2.2.2.2.2.2.2.1 == false && (spX p r false).2.2.2.2.2.2.2.2.2.2.1 == false)) = true := rfl
    simp only [s1, s2, s3, Bool.and_self, cond_true]
    rw [hR]
    cases x7 <;> rfl
  | false =>
    cases x7 with
    | false =>
      rw [if_pos (show (!false || false) = true from rfl)]
      have b0 : (Int.ofNat ([spX p r false] : List Span).length == Int.ofNat 1) = true := rfl
      have b1 : ([spX p r false] : List Span)[0]? = some (spX p r false) := rfl
      simp only [cond_true, cond_false, Bool.not_false, b0, b1, obs]
      have s1 : ((spX p r false).1 == p.1 && ((spX p r false).2.1 == p.2.1 && ((spX p r false).2.2.1 == p.2.2.1 && bl (spX p r false).2.2.2.1 == bl p.2.2.2.1))) = true := same p
      have s2 : ((spX p r false).2.2.2.2.1 == r.1 && ((spX p r false).2.2.2.2.2.1 == r.2.1 && ((spX p r false).2.2.2.2.2.2.1 == r.2.2.1 && bl (spX p r false).2.2.2.2.2.2.2.1 == bl r.2.2.2.1))) = true := same r
      have s3 : ((spX p r false).2.2.2.2.2.2.2.2.1 == false && ((spX p r false).2.2.2.2.2.2.2.2.2.1 == false && (spX p r false).2.2.2.2.2.2.2.2.2.2.1 == false)) = true := rfl
      simp only [s1, s2, s3, Bool.and_self, cond_true]
      rw [hR]
      rfl
    | true =>
      rw [if_neg (by decide)]
      have hX : okS (spX p q false) = true := by simp only [okS, Bool.and_eq_true]; exact ⟨hk.1, hk.2.1⟩
      have hY : okS (spY q r true) = true := by simp only [okS, Bool.and_eq_true]; exact ⟨hk.2.1, hk.2.2⟩
      have fh := F24_is [spX p q false, spY q r true] q (fun s hs => by
        simp only [List.mem_cons, List.not_mem_nil, or_false] at hs
        rcases hs with rfl | rfl
        · exact hX
        · exact hY) hk.2.1 (by show 2 ≤ big; decide)
      have hno : hasK ([spX p q false, spY q r true].map kOf) (ptV q) = false := by
        show hasK [kOf (spX p q false), kOf (spY q r true)] (ptV q) = false
        rw [kX, kY]
        have g1 : ¬ ptV q < ptOf q false false := by show ¬ ptV q < ptV q; grind
        have g2 : decide (ptOf q true false ≤ ptV q) = false := same_b q true false
        simp only [hasK, List.any_cons, List.any_nil, Bool.or_false, g2, decide_eq_false g1, Bool.and_false, Bool.false_and]
      rw [hno] at fh
      have b0 : (Int.ofNat ([spX p q false, spY q r true] : List Span).length == Int.ofNat 2) = true := rfl
      have b1 : (Int.ofNat R.length == Int.ofNat 0) = true := by rw [hR]; rfl
      simp only [cond_true, cond_false, Bool.not_true, b0, b1, obs, fh]
      rfl
end Go.Vx.Z
namespace Go.Proofs.YtildhhdbikpbaaaGreatDoor
open Go Go.Vx Go.ChangeShapes Go.WideShapes Go.ChangeAt Go.RowKit
open Go.ChangeMaps (open_string shut_string)
set_option linter.unusedVariables false
namespace spanEnds
theorem own : ownKnob Tryz.prog.godebug = none := by kernel_rfl
theorem laidOut : laidOutB Tryz.prog = true := by kernel_rfl
set_option maxRecDepth 100000 in
theorem lifted (os : Os) (started : os.Started) (H : Type) (enc : TypeId × Value → H) :
    ReturnsInHanded {} Tryz.checked os 9 .any (fun w args => (Rows.spanEndsSpec.pre enc Tryz.prog Tryz.f9 Rows.spanEndsRow.domain false w args ∧ laidMetH Tryz.prog Rows.spanEndsRow.laid w) ∧ sizedMet enc Tryz.prog Tryz.f9 (OpenSpec.ofChange Rows.spanEndsSpec) false w args)
      (Rows.spanEndsSpec.post enc Tryz.prog Tryz.f9 false true false false) := by
  refine returnsInHanded_of_change_and (C := Tryz.checked) (X := fun w _ => laidMetH Tryz.prog Rows.spanEndsRow.laid w) (fun _ _ _ hh h => h.of_heap hh) own started (by kernel_rfl) Tryz.func9
    (ChangeSpec.witness_shaped (enc := enc) (C := Tryz.checked) (os := os) (X := fun w _ => laidMetH Tryz.prog Rows.spanEndsRow.laid w) false (World.laidAll Tryz.prog os Rows.spanEndsRow.laid) #[.int .i64 0, .int .i64 0, .int .i64 0, .int .i64 0, .int .i64 0, .int .i64 0, .bool false, .bool false] 8 (World.laidAll_os _ _ _)
      (World.shaped_of_ZipB (by kernel_rfl) (by kernel_rfl)) (by kernel_rfl) (by kernel_rfl) (by kernel_rfl)
      (by rw [MakeChecks.laidMetH_plain _ _ _ (by kernel_rfl)]; exact laidMet_laidAll _ (by kernel_rfl) (by kernel_rfl))) ?_
  intro W base args ds gs before hval0 hW hc hsz0 hL _
  have hsz : (DataW.weightsEach Tryz.prog (Tryz.f9.params.toList ++ Rows.spanEndsSpec.plain.varTypes Tryz.prog) (ds ++ gs)).all (· ≤ reachBytes) = true := hsz0
  have hval : ∀ (j : Nat) t v, Tryz.f9.params[j]? = some t → args[j]? = some v → Value.okWide Tryz.prog W .any base t v := hval0
  have hW' := hW
  obtain ⟨p, q, hA0, hV, rfl, hfz, hnd⟩ := hW
  have hA : DataW.TrodAll enc Tryz.prog W 0 (fun _ => true) true Tryz.f9.params.toList args.toList ds p := hA0
  rw [Tryz.params9] at hA hval hsz
  obtain ⟨v0, vs0, d0, ds0, p0, q0, hargs, rfl, rfl, h0, r0⟩ := trodAll_cons hA
  obtain ⟨v1, vs1, d1, ds1, p1, q1, rfl, rfl, rfl, h1, r1⟩ := trodAll_cons r0
  obtain ⟨v2, vs2, d2, ds2, p2, q2, rfl, rfl, rfl, h2, r2⟩ := trodAll_cons r1
  obtain ⟨v3, vs3, d3, ds3, p3, q3, rfl, rfl, rfl, h3, r3⟩ := trodAll_cons r2
  obtain ⟨v4, vs4, d4, ds4, p4, q4, rfl, rfl, rfl, h4, r4⟩ := trodAll_cons r3
  obtain ⟨v5, vs5, d5, ds5, p5, q5, rfl, rfl, rfl, h5, r5⟩ := trodAll_cons r4
  obtain ⟨v6, vs6, d6, ds6, p6, q6, rfl, rfl, rfl, h6, r6⟩ := trodAll_cons r5
  obtain ⟨v7, vs7, d7, ds7, p7, q7, rfl, rfl, rfl, h7, r7⟩ := trodAll_cons r6
  obtain ⟨rfl, rfl, rfl⟩ := trodAll_nil r7
  obtain rfl : args = #[v0, v1, v2, v3, v4, v5, v6, v7] := by cases args; simp_all
  obtain ⟨rfl, rfl⟩ := trodVars_none hV
  obtain ⟨a0, rfl, rfl, rfl, w0⟩ := open_int Tryz.underlying3 (hval 0 3 v0 rfl rfl) h0
  obtain ⟨a1, rfl, rfl, rfl, w1⟩ := open_int Tryz.underlying3 (hval 1 3 v1 rfl rfl) h1
  obtain ⟨a2, rfl, rfl, rfl, w2⟩ := open_int Tryz.underlying3 (hval 2 3 v2 rfl rfl) h2
  obtain ⟨a3, rfl, rfl, rfl, w3⟩ := open_int Tryz.underlying3 (hval 3 3 v3 rfl rfl) h3
  obtain ⟨a4, rfl, rfl, rfl, w4⟩ := open_int Tryz.underlying3 (hval 4 3 v4 rfl rfl) h4
  obtain ⟨a5, rfl, rfl, rfl, w5⟩ := open_int Tryz.underlying3 (hval 5 3 v5 rfl rfl) h5
  obtain ⟨a6, rfl, rfl, rfl⟩ := open_bool Tryz.underlying4 (hval 6 4 v6 rfl rfl) h6
  obtain ⟨a7, rfl, rfl, rfl⟩ := open_bool Tryz.underlying4 (hval 7 4 v7 rfl rfl) h7
  clear hA0 hval0 hsz0 hsz
  have hst : ∀ y, (False) → y.spot = none ∧ ∃ v, W.cell? y = some v := by
    intro y hy
    cases hy
  have hL1 : laidMet Tryz.prog Rows.spanEndsRow.laid W := by rw [← MakeChecks.laidMetH_plain _ _ _ (by kernel_rfl)]; exact hL
  have hG := ground_of_laid hL1 (List.mem_cons_of_mem _ (List.mem_cons_of_mem _ List.mem_cons_self)) (by kernel_rfl) (g := 1) (t := 193) (n := 20) (e := 153) (by kernel_rfl) (by kernel_rfl) Tryz.underlying193 Tryz.underlying153 (by kernel_rfl) (by kernel_rfl)
  refine (law_calls (Go.Vx.Z.ok9) rfl (enters_of Tryz.func9 (by kernel_rfl) rfl) hG.1 hG.2 (S := fun y => False) hst (a0, a1, a2, a3, a4, a5, a6, a7, ()) (Go.Vx.Z.pure_SpanEnds a0 a1 a2 a3 a4 a5 a6 a7 w0 w1 w2 w3 w4 w5) rfl (fun i => ?_)).mono fun e W' ⟨he, bel⟩ => ?_
  · match i with
    | 0 => exact rfl
    | 1 => exact rfl
    | 2 => exact rfl
    | 3 => exact rfl
    | 4 => exact rfl
    | 5 => exact rfl
    | 6 => exact rfl
    | 7 => exact rfl
    | i + 8 => trivial
  subst he
  exact ⟨_, rfl, _, _, _, [], _, [], hW', trodAll_mk1 (shut_bool Tryz.underlying4 _), (trodAll_cons_mk (shut_int Tryz.underlying3 w0) (trodAll_cons_mk (shut_int Tryz.underlying3 w1) (trodAll_cons_mk (shut_int Tryz.underlying3 w2) (trodAll_cons_mk (shut_int Tryz.underlying3 w3) (trodAll_cons_mk (shut_int Tryz.underlying3 w4) (trodAll_cons_mk (shut_int Tryz.underlying3 w5) (trodAll_cons_mk (shut_bool Tryz.underlying4 _) (trodAll_cons_mk (shut_bool Tryz.underlying4 _) trodAll_mk0)))))))), rfl, bel.frame _, fun h => by cases h⟩
theorem holds : Rows.SpanEndsSaid :=
  OpenClaim.holds_of_wide 9 Tryz.f9 rfl rfl rfl rfl rfl rfl rfl ⟨rfl, rfl, rfl, rfl, rfl⟩ rfl rfl rfl rfl rfl (by kernel_rfl) Tryz.func9 (by kernel_rfl)
    (of_decide_eq_true (by kernel_rfl)) (by unfold Func.isWrapper; first | (rw [if_pos (by decide +kernel)]; kernel_rfl) | (rw [if_neg (by decide +kernel)]; exact ⟨rfl, rfl⟩))
    (fun os started H enc _ => lifted os started H enc)
theorem card_holds : Rows.SpanEndsCardSaid :=
  Claim7.holds_tied_plain_at .later [] [.data, .data, .data, .data, .pinned] true (true, "677dda388697c3be81f00c8f3e7162a91e326615aec89fc25f0adc6f7f408f5b") false holds (fun _ h => by cases h) (by kernel_rfl) (fun _ h => by cases h) spanEnds_row_tie rfl ⟨rfl, rfl⟩ (by kernel_rfl) rfl
    (fun f fn hf hfn => by
      obtain rfl : f = 9 := Option.some.inj ((show Tryz.prog.funcNamed "transhumance/transhumancelaw3.SpanEnds" = some 9 by kernel_rfl).symm.trans hf) |>.symm
      obtain rfl : fn = Tryz.f9 := (Option.some.inj (Tryz.func9.symm.trans hfn)).symm
      exact ⟨by kernel_rfl, fun j t ht => by
        rw [Tryz.params9] at ht
        have hm : t ∈ [3, 3, 3, 3, 3, 3, 4, 4] := by simpa using Array.mem_of_getElem? ht
        have hall : ([3, 3, 3, 3, 3, 3, 4, 4].all fun u => !Tryz.prog.wantsStandIn u) = true := by kernel_rfl
        exact (show Tryz.prog.wantsStandIn t = false by simpa using List.all_eq_true.1 hall t hm)⟩)
    (by kernel_rfl)
end spanEnds
end Go.Proofs.YtildhhdbikpbaaaGreatDoor
