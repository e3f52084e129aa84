/- Any spans that are made are written as the document says; unlike ones are written unlike; whatever the numbers. -/
import Derived.Test.YtildhhdbikpbaaaGreatDoorV9
import Derived.Test.YtildhhdbikpbaaaGreatDoorV2
import Derived.Test.YtildhhdbikpbaaaGreatDoorRows
import Derived.Test.YtildhhdbikpbaaaGreatDoorTie
import Derived.Test.YtildhhdbikpbaaaGreatDoorCards
import Derived.Test.YtildhhdbikpbaaaGreatDoorV5
import Derived.WalkKit
import Derived.ProofKit
import Derived.OpenShut
import Derived.ShutString
import Derived.ChangeOld
import Derived.Below
import Derived.SizedLaws
import Derived.LaidMore
import Derived.Lay
import Derived.SevenTiedAt
import Derived.Stop.Joined
import Derived.KernelRfl
set_option linter.unusedSimpArgs false
/-! SpanTexts: unlike spans are written unlike. -/
namespace Go.Vx.Z
open Go Go.Vx
set_option linter.unusedVariables false
set_option maxRecDepth 100000
theorem cut_eq {α : Type} (q : α → Bool) : ∀ (u v x y : List α), (∀ c ∈ u, q c = true) → (∀ c ∈ v, q c = true) → (∀ c l, x = c :: l → q c = false) → (∀ c l, y = c :: l → q c = false) → u ++ x = v ++ y → u = v ∧ x = y
  | [], [], x, y, _, _, _, _, h => ⟨rfl, h⟩
  | [], d :: v, x, y, _, hv, hx, _, h => by
    have := hx d (v ++ y) h
    rw [hv d (by simp)] at this
    cases this
  | c :: u, [], x, y, hu, _, _, hy, h => by
    have := hy c (u ++ x) h.symm
    rw [hu c (by simp)] at this
    cases this
  | c :: u, d :: v, x, y, hu, hv, hx, hy, h => by
    simp only [List.cons_append, List.cons.injEq] at h
    obtain ⟨h1, h2⟩ := cut_eq q u v x y (fun c hc => hu c (by simp [hc])) (fun c hc => hv c (by simp [hc])) hx hy h.2
    exact ⟨by rw [h.1, h1], h2⟩
theorem dec_inj {u v : Nat} (h : Lib.decDigits u = Lib.decDigits v) : u = v := by rw [← dec_num u, ← dec_num v, h]
theorem dec_cut {u v : Nat} {x y : List UInt8} (hx : ∀ c l, x = c :: l → dig1 c = false) (hy : ∀ c l, y = c :: l → dig1 c = false) (h : Lib.decDigits u ++ x = Lib.decDigits v ++ y) : u = v ∧ x = y := by
  obtain ⟨h1, h2⟩ := cut_eq dig1 _ _ x y (dec_all u) (dec_all v) hx hy h
  exact ⟨dec_inj h1, h2⟩
theorem verT_inj {u v : Ver} (hu : okN u) (hv : okN v) (h : verT u = verT v) : u = v := by
  obtain ⟨a1, a2, a3, _⟩ := hu
  obtain ⟨b1, b2, b3, _⟩ := hv
  obtain ⟨A, B, C, s, x⟩ := u
  obtain ⟨A', B', C', s', x'⟩ := v
  simp only at a1 a2 a3 b1 b2 b3
  simp only [verT, List.cons.injEq, true_and] at h
  have d46 : ∀ (c : UInt8) (l m : List UInt8), (46 :: m) = c :: l → dig1 c = false := fun c l m h => by
    injection h with h _
    rw [← h]; rfl
  obtain ⟨h1, h⟩ := dec_cut (fun c l => d46 c l _) (fun c l => d46 c l _) h
  simp only [List.cons.injEq, true_and] at h
  obtain ⟨h2, h⟩ := dec_cut (fun c l => d46 c l _) (fun c l => d46 c l _) h
  simp only [List.cons.injEq, true_and] at h
  have d45 : ∀ (t : ByteArray) (c : UInt8) (l : List UInt8), (if bs t = [] then [] else 45 :: bs t) = c :: l → dig1 c = false := fun t c l h => by
    split at h
    · cases h
    · injection h with h _
      rw [← h]; rfl
  obtain ⟨h3, h⟩ := dec_cut (d45 s) (d45 s') h
  have h4 : bs s = bs s' := by
    by_cases e1 : bs s = []
    · by_cases e2 : bs s' = []
      · rw [e1, e2]
      · rw [if_pos e1, if_neg e2] at h; cases h
    · by_cases e2 : bs s' = []
      · rw [if_neg e1, if_pos e2] at h; cases h
      · rw [if_neg e1, if_neg e2] at h
        injection h
  have := bs_inj h4
  subst this
  have i1 : A = A' := by omega
  have i2 : B = B' := by omega
  have i3 : C = C' := by omega
  rw [i1, i2, i3]
/-- A byte of a version's text. -/
def tokB (c : UInt8) : Bool := !(c == 44 || c == 93 || c == 41 || c == 32 || c == 124)
theorem dig_tok {c : UInt8} (h : dig1 c = true) : tokB c = true := by
  unfold dig1 at h
  rw [Bool.and_eq_true, decide_eq_true_eq, decide_eq_true_eq] at h
  unfold tokB
  have key : ∀ d : UInt8, (d.toNat < 48 ∨ 57 < d.toNat) → (c == d) = false := fun d hd => by
    rw [← Bool.not_eq_true, beq_iff_eq]
    intro he
    subst he
    omega
  rw [key 44 (by decide), key 93 (by decide), key 41 (by decide), key 32 (by decide), key 124 (by decide)]
  rfl
theorem jn_tok : ∀ (ws : List (List UInt8)), (∀ w ∈ ws, w ∈ preW) → ∀ c ∈ jn ws, tokB c = true
  | [], _, c, hc => by cases hc
  | [w], h, c, hc => by
    have key : ∀ w ∈ preW, ∀ c ∈ w, tokB c = true := by decide
    exact key w (h w (by simp)) c hc
  | w :: v :: l, h, c, hc => by
    have key : ∀ w ∈ preW, ∀ c ∈ w, tokB c = true := by decide
    rw [jn] at hc
    rcases List.mem_append.1 hc with hc | hc
    · exact key w (h w (by simp)) c hc
    · rcases List.mem_cons.1 hc with rfl | hc
      · rfl
      · exact jn_tok (v :: l) (fun u hu => h u (by simp [hu])) c hc
theorem verT_tok {v : Ver} (h : okMk v) : ∀ c ∈ verT v, tokB c = true := by
  obtain ⟨_, _, _, _, n, _, ws, _, h2, h3⟩ := h
  intro c hc
  unfold verT at hc
  rcases List.mem_cons.1 hc with rfl | hc
  · rfl
  rcases List.mem_append.1 hc with hc | hc
  · exact dig_tok (dec_all _ c hc)
  rcases List.mem_cons.1 hc with rfl | hc
  · rfl
  rcases List.mem_append.1 hc with hc | hc
  · exact dig_tok (dec_all _ c hc)
  rcases List.mem_cons.1 hc with rfl | hc
  · rfl
  rcases List.mem_append.1 hc with hc | hc
  · exact dig_tok (dec_all _ c hc)
  split at hc
  · cases hc
  · rcases List.mem_cons.1 hc with rfl | hc
    · rfl
    · rw [h3] at hc
      exact jn_tok ws h2 c hc
def okSM (s : Span) : Prop := canS s ∧ okMk s.lo ∧ okMk s.hi
theorem span_ext {s t : Span} (h1 : s.lo = t.lo) (h2 : s.hi = t.hi) (h3 : s.above = t.above) (h4 : s.isIn = t.isIn) (h5 : s.op = t.op) : s = t := by
  obtain ⟨a, b, c, d, a', b', c', d', u, v, w, x⟩ := s
  obtain ⟨e, f, g, h, e', f', g', h', i, j, k, m⟩ := t
  simp only [Span.lo, Prod.mk.injEq] at h1
  simp only [Span.hi, Prod.mk.injEq] at h2
  simp only [Span.above] at h3
  simp only [Span.isIn] at h4
  simp only [Span.op] at h5
  obtain ⟨rfl, rfl, rfl, rfl, _⟩ := h1
  obtain ⟨rfl, rfl, rfl, rfl, _⟩ := h2
  subst h3 h4 h5
  rfl
theorem spT_cut {s t : Span} (hs : okSM s) (ht : okSM t) {x y : List UInt8} (hx : ∀ c l, x = c :: l → c = 32) (hy : ∀ c l, y = c :: l → c = 32) (h : spT s ++ x = spT t ++ y) : s = t ∧ x = y := by
  obtain ⟨cs, ls, hs⟩ := hs
  obtain ⟨ct, lt, ht⟩ := ht
  simp only [spT, List.cons_append, List.append_assoc, List.cons.injEq] at h
  obtain ⟨h1, h⟩ := h
  have ha : s.above = t.above := by cases h2 : s.above <;> cases h3 : t.above <;> simp [h2, h3] at h1 <;> rfl
  have d44 : ∀ (c : UInt8) (l m : List UInt8), (44 :: m) = c :: l → tokB c = false := fun c l m h => by
    injection h with h _
    rw [← h]; rfl
  obtain ⟨h4, h⟩ := cut_eq tokB _ _ _ _ (verT_tok ls) (verT_tok lt) (fun c l => d44 c l _) (fun c l => d44 c l _) h
  have hlo := verT_inj (okMk_N ls) (okMk_N lt) h4
  simp only [List.cons.injEq, true_and] at h
  have hv : ∀ v : Ver, ∃ r, verT v = 118 :: r := fun v => ⟨_, rfl⟩
  cases ho : s.op with
  | true =>
    cases hp : t.op with
    | true =>
      rw [ho, hp] at h
      simp only [if_true, List.cons_append, List.nil_append, List.cons.injEq, true_and] at h
      obtain ⟨g1, g2⟩ := cs.2 ho
      obtain ⟨g3, g4⟩ := ct.2 hp
      exact ⟨span_ext hlo (by rw [g1, g3]) ha (by rw [g2, g4]) (by rw [ho, hp]), h⟩
    | false =>
      obtain ⟨r, hr⟩ := hv t.hi
      rw [ho, hp] at h
      simp [hr] at h
  | false =>
    cases hp : t.op with
    | true =>
      obtain ⟨r, hr⟩ := hv s.hi
      rw [ho, hp] at h
      simp [hr] at h
    | false =>
      rw [ho, hp] at h
      simp only [Bool.false_eq_true, if_false, List.append_assoc] at h
      have dx : ∀ (b : Bool) (z : List UInt8) (c : UInt8) (l : List UInt8), [if b = true then (93 : UInt8) else 41] ++ z = c :: l → tokB c = false := fun b z c l h => by
        rw [List.singleton_append] at h
        injection h with h _
        rw [← h]
        cases b <;> rfl
      obtain ⟨h5, h⟩ := cut_eq tokB _ _ _ _ (verT_tok hs) (verT_tok ht) (dx s.isIn x) (dx t.isIn y) h
      have hhi := verT_inj (okMk_N hs) (okMk_N ht) h5
      simp only [List.singleton_append, List.cons.injEq] at h
      have hi : s.isIn = t.isIn := by cases h2 : s.isIn <;> cases h3 : t.isIn <;> simp [h2, h3] at h <;> rfl
      exact ⟨span_ext hlo hhi ha hi (by rw [ho, hp]), h.2⟩
theorem jS_inj : ∀ (L M : List Span), (∀ s ∈ L, okSM s) → (∀ s ∈ M, okSM s) → L ≠ [] → M ≠ [] → jS (L.map spT) = jS (M.map spT) → L = M := by
  have hj : ∀ (s : Span) (L : List Span), ∃ x, jS ((s :: L).map spT) = spT s ++ x ∧ (∀ c l, x = c :: l → c = 32) ∧ ((L = [] ∧ x = []) ∨ (L ≠ [] ∧ x = [32, 124, 124, 32] ++ jS (L.map spT))) := by
    intro s L
    cases L with
    | nil => exact ⟨[], by simp [jS], fun c l h => (by cases h), .inl ⟨rfl, rfl⟩⟩
    | cons t L => exact ⟨_, rfl, fun c l h => by injection h with h _; exact h.symm, .inr ⟨by simp, rfl⟩⟩
  intro L
  induction L with
  | nil => intro M _ _ h; exact absurd rfl h
  | cons s L ih =>
    intro M hL hM _ hne h
    cases M with
    | nil => exact absurd rfl hne
    | cons t M =>
      obtain ⟨x, h1, h2, h3⟩ := hj s L
      obtain ⟨y, h4, h5, h6⟩ := hj t M
      rw [h1, h4] at h
      obtain ⟨h7, h8⟩ := spT_cut (hL s (by simp)) (hM t (by simp)) h2 h5 h
      subst h7
      rcases h3 with ⟨rfl, rfl⟩ | ⟨n1, rfl⟩
      · rcases h6 with ⟨rfl, _⟩ | ⟨n2, rfl⟩
        · rfl
        · cases h8
      · rcases h6 with ⟨rfl, rfl⟩ | ⟨n2, rfl⟩
        · cases h8
        · have h9 := List.append_cancel_left h8
          rw [ih M (fun s hs => hL s (by simp [hs])) (fun s hs => hM s (by simp [hs])) n1 n2 h9]
theorem textB_inj {L M : List Span} (hL : ∀ s ∈ L, okSM s) (hM : ∀ s ∈ M, okSM s) (h : textB L = textB M) : L = M := by
  have h45 : ∀ (N : List Span), N ≠ [] → jS (N.map spT) ≠ [45] := by
    intro N hN he
    cases N with
    | nil => exact hN rfl
    | cons s N =>
      have h1 : ∃ c l, jS ((s :: N).map spT) = c :: l ∧ c ≠ 45 := by
        have h2 : ∃ l, spT s = (if s.above then 40 else 91) :: l := ⟨_, rfl⟩
        obtain ⟨l, h2⟩ := h2
        have h3 : (if s.above then (40 : UInt8) else 91) ≠ 45 := by cases s.above <;> decide
        cases N with
        | nil => exact ⟨_, l, by rw [List.map_singleton, jS, h2], h3⟩
        | cons t N => exact ⟨_, _, by rw [List.map_cons, List.map_cons, jS, h2, List.cons_append], h3⟩
      obtain ⟨c, l, h4, h5⟩ := h1
      rw [h4] at he
      injection he with he _
      exact h5 he
  unfold textB at h
  by_cases e1 : L = []
  · by_cases e2 : M = []
    · rw [e1, e2]
    · rw [if_pos e1, if_neg e2] at h
      exact absurd h.symm (h45 M e2)
  · by_cases e2 : M = []
    · rw [if_neg e1, if_pos e2] at h
      exact absurd h (h45 L e1)
    · rw [if_neg e1, if_neg e2] at h
      exact jS_inj L M hL hM e1 e2 h
open Classical in
theorem pure_SpanTexts (x0 x1 : List Int) (h0 : ∀ x ∈ x0, (Lit.int .i64 x).wf = true) (h1 : ∀ x ∈ x1, (Lit.int .i64 x).wf = true) : F7 (x0, x1, ()) = some (true, ()) := by
  obtain ⟨a, fa, na, ra, la, va⟩ := make_is x0
  obtain ⟨b, fb, nb, rb, lb, vb⟩ := make_is x1
  have oa : ∀ s ∈ a, okSN s := fun s hs => ⟨okMk_N (va s hs).1, okMk_N (va s hs).2⟩
  have ob : ∀ s ∈ b, okSN s := fun s hs => ⟨okMk_N (vb s hs).1, okMk_N (vb s hs).2⟩
  have ta := F34_is a (by omega) oa
  have tb := F34_is b (by omega) ob
  have ua := F35_is a (by omega) oa
  rw [F7_eq]
  simp only [fa, fb, ta, tb, ua, obs]
  have e1 : (bl (lit (textB a)) == bl (lit (textB a))) = true := beq_self_eq_true _
  rw [e1, cond_true, F19_is a b (by simp only [big]; omega), obs]
  have e2 : (bl (lit (textB a)) == bl (lit (textB b))) = decide (a = b) := by
    show (textB a == textB b) = _
    by_cases h : a = b
    · subst h
      rw [decide_eq_true rfl]; exact beq_self_eq_true _
    · rw [decide_eq_false h, ← Bool.not_eq_true, beq_iff_eq]
      exact fun he => h (textB_inj (fun s hs => ⟨na.2 s hs, va s hs⟩) (fun s hs => ⟨nb.2 s hs, vb s hs⟩) he)
  rw [e2]
  simp
end Go.Vx.Z
namespace Go.Proofs.YtildhhdbikpbaaaGreatDoor
open Go Go.Vx Go.ChangeShapes Go.WideShapes Go.ChangeAt Go.RowKit
open Go.ChangeMaps (open_string shut_string)
set_option linter.unusedVariables false
namespace spanTexts
theorem own : ownKnob Tryz.prog.godebug = none := by kernel_rfl
theorem laidOut : laidOutB Tryz.prog = true := by kernel_rfl
set_option maxRecDepth 100000 in
theorem lifted (os : Os) (started : os.Started) (H : Type) (enc : TypeId × Value → H) :
    ReturnsInHanded {} Tryz.checked os 7 .any (fun w args => (Rows.spanTextsSpec.pre enc Tryz.prog Tryz.f7 Rows.spanTextsRow.domain false w args ∧ laidMetH Tryz.prog Rows.spanTextsRow.laid w) ∧ sizedMet enc Tryz.prog Tryz.f7 (OpenSpec.ofChange Rows.spanTextsSpec) false w args)
      (Rows.spanTextsSpec.post enc Tryz.prog Tryz.f7 false true false false) := by
  refine returnsInHanded_of_change_and (C := Tryz.checked) (X := fun w _ => laidMetH Tryz.prog Rows.spanTextsRow.laid w) (fun _ _ _ hh h => h.of_heap hh) own started (by kernel_rfl) Tryz.func7
    (ChangeSpec.witness_shaped (enc := enc) (C := Tryz.checked) (os := os) (X := fun w _ => laidMetH Tryz.prog Rows.spanTextsRow.laid w) false (World.laidAll Tryz.prog os Rows.spanTextsRow.laid) #[.slice none 0 0, .slice none 0 0] 8 (World.laidAll_os _ _ _)
      (World.shaped_of_ZipB (by kernel_rfl) (by kernel_rfl)) (by kernel_rfl) (by kernel_rfl) (by kernel_rfl)
      (by rw [MakeChecks.laidMetH_plain _ _ _ (by kernel_rfl)]; exact laidMet_laidAll _ (by kernel_rfl) (by kernel_rfl))) ?_
  intro W base args ds gs before hval0 hW hc hsz0 hL _
  have hsz : (DataW.weightsEach Tryz.prog (Tryz.f7.params.toList ++ Rows.spanTextsSpec.plain.varTypes Tryz.prog) (ds ++ gs)).all (· ≤ reachBytes) = true := hsz0
  have hval : ∀ (j : Nat) t v, Tryz.f7.params[j]? = some t → args[j]? = some v → Value.okWide Tryz.prog W .any base t v := hval0
  have hW' := hW
  obtain ⟨p, q, hA0, hV, rfl, hfz, hnd⟩ := hW
  have hA : DataW.TrodAll enc Tryz.prog W 0 (fun _ => true) true Tryz.f7.params.toList args.toList ds p := hA0
  rw [Tryz.params7] at hA hval hsz
  obtain ⟨v0, vs0, d0, ds0, p0, q0, hargs, rfl, rfl, h0, r0⟩ := trodAll_cons hA
  obtain ⟨v1, vs1, d1, ds1, p1, q1, rfl, rfl, rfl, h1, r1⟩ := trodAll_cons r0
  obtain ⟨rfl, rfl, rfl⟩ := trodAll_nil r1
  obtain rfl : args = #[v0, v1] := by cases args; simp_all
  obtain ⟨rfl, rfl⟩ := trodVars_none hV
  obtain ⟨a0, len0, cap0, rfl⟩ := okWide_slice Tryz.underlying22 (hval 0 22 v0 rfl rfl)
  have k0 := h0
  have lt0 : ∀ x ∈ p0, x.block < W.heap.size := by obtain ⟨m, hm⟩ := k0; exact DataW.trod_lt m _ _ _ hm
  obtain ⟨z0, w0⟩ : ∃ zs, IsRow .i64 W a0 len0 cap0 zs := by
    obtain ⟨fuel, hf⟩ := h0
    rcases open_ints Tryz.underlying22 Tryz.underlying3 (by kernel_rfl) hf with ⟨hcs, _⟩ | ⟨x, l, c, zs, hcs, _, hl, hm, hz, _, hcell, hwz⟩
    · simp [Value.cells] at hcs
      obtain ⟨rfl, rfl, rfl⟩ := hcs
      exact ⟨[], .inl ⟨rfl, rfl, rfl, rfl⟩⟩
    · simp [Value.cells] at hcs
      obtain ⟨rfl, rfl, rfl⟩ := hcs
      exact ⟨zs, .inr ⟨_, rfl, hl, hm, by simpa using hz, hcell, hwz⟩⟩
  have wf0 : ∀ x ∈ z0.take len0, (Lit.int .i64 x).wf = true := by
    rcases w0 with ⟨_, _, _, rfl⟩ | ⟨_, _, _, _, _, _, hwf⟩
    · simp
    · exact fun x hx => hwf x (List.mem_of_mem_take hx)
  obtain ⟨a1, len1, cap1, rfl⟩ := okWide_slice Tryz.underlying22 (hval 1 22 v1 rfl rfl)
  have k1 := h1
  have lt1 : ∀ x ∈ p1, x.block < W.heap.size := by obtain ⟨m, hm⟩ := k1; exact DataW.trod_lt m _ _ _ hm
  obtain ⟨z1, w1⟩ : ∃ zs, IsRow .i64 W a1 len1 cap1 zs := by
    obtain ⟨fuel, hf⟩ := h1
    rcases open_ints Tryz.underlying22 Tryz.underlying3 (by kernel_rfl) hf with ⟨hcs, _⟩ | ⟨x, l, c, zs, hcs, _, hl, hm, hz, _, hcell, hwz⟩
    · simp [Value.cells] at hcs
      obtain ⟨rfl, rfl, rfl⟩ := hcs
      exact ⟨[], .inl ⟨rfl, rfl, rfl, rfl⟩⟩
    · simp [Value.cells] at hcs
      obtain ⟨rfl, rfl, rfl⟩ := hcs
      exact ⟨zs, .inr ⟨_, rfl, hl, hm, by simpa using hz, hcell, hwz⟩⟩
  have wf1 : ∀ x ∈ z1.take len1, (Lit.int .i64 x).wf = true := by
    rcases w1 with ⟨_, _, _, rfl⟩ | ⟨_, _, _, _, _, _, hwf⟩
    · simp
    · exact fun x hx => hwf x (List.mem_of_mem_take hx)
  clear hA0 hval0 hsz0 hsz
  have hst : ∀ y, (RowS a0 z0.length y ∨ RowS a1 z1.length y) → y.spot = none ∧ ∃ v, W.cell? y = some v := by
    intro y hy
    rcases hy with hy | hy
    · exact isRow_st w0 hy
    · exact isRow_st w1 hy
  have hL1 : laidMet Tryz.prog Rows.spanTextsRow.laid W := by rw [← MakeChecks.laidMetH_plain _ _ _ (by kernel_rfl)]; exact hL
  have hG := ground_of_laid hL1 (List.mem_cons_of_mem _ (List.mem_cons_of_mem _ List.mem_cons_self)) (by kernel_rfl) (g := 1) (t := 193) (n := 20) (e := 153) (by kernel_rfl) (by kernel_rfl) Tryz.underlying193 Tryz.underlying153 (by kernel_rfl) (by kernel_rfl)
  refine (law_calls (Go.Vx.Z.ok7) rfl (enters_of Tryz.func7 (by kernel_rfl) rfl) hG.1 hG.2 (S := fun y => RowS a0 z0.length y ∨ RowS a1 z1.length y) hst ((z0.take len0), (z1.take len1), ()) (Go.Vx.Z.pure_SpanTexts (z0.take len0) (z1.take len1) wf0 wf1) rfl (fun i => ?_)).mono fun e W' ⟨he, bel⟩ => ?_
  · match i with
    | 0 => exact isRow_rep w0 (fun y hy => .inl hy)
    | 1 => exact isRow_rep w1 (fun y hy => .inr (hy))
    | i + 2 => trivial
  subst he
  exact ⟨_, rfl, _, _, _, [], _, [], hW', trodAll_mk1 (shut_bool Tryz.underlying4 _), (trodAll_cons_mk (Below.trod laidOut (by kernel_rfl) (of_decide_eq_true (by kernel_rfl)) k0 bel lt0) (trodAll_cons_mk (Below.trod laidOut (by kernel_rfl) (of_decide_eq_true (by kernel_rfl)) k1 bel lt1) trodAll_mk0)), rfl, bel.frame _, fun h => by cases h⟩
theorem holds : Rows.SpanTextsSaid :=
  OpenClaim.holds_of_wide 7 Tryz.f7 rfl rfl rfl rfl rfl rfl rfl ⟨rfl, rfl, rfl, rfl, rfl⟩ rfl rfl rfl rfl rfl (by kernel_rfl) Tryz.func7 (by kernel_rfl)
    (of_decide_eq_true (by kernel_rfl)) (by unfold Func.isWrapper; first | (rw [if_pos (by decide +kernel)]; kernel_rfl) | (rw [if_neg (by decide +kernel)]; exact ⟨rfl, rfl⟩))
    (fun os started H enc _ => lifted os started H enc)
theorem card_holds : Rows.SpanTextsCardSaid :=
  Claim7.holds_tied_plain_at .later [] [.data, .data, .data, .data, .pinned] true (true, "677dda388697c3be81f00c8f3e7162a91e326615aec89fc25f0adc6f7f408f5b") false holds (fun _ h => by cases h) (by kernel_rfl) (fun _ h => by cases h) spanTexts_row_tie rfl ⟨rfl, rfl⟩ (by kernel_rfl) rfl
    (fun f fn hf hfn => by
      obtain rfl : f = 7 := Option.some.inj ((show Tryz.prog.funcNamed "transhumance/transhumancelaw3.SpanTexts" = some 7 by kernel_rfl).symm.trans hf) |>.symm
      obtain rfl : fn = Tryz.f7 := (Option.some.inj (Tryz.func7.symm.trans hfn)).symm
      exact ⟨by kernel_rfl, fun j t ht => by
        rw [Tryz.params7] at ht
        have hm : t ∈ [22, 22] := by simpa using Array.mem_of_getElem? ht
        have hall : ([22, 22].all fun u => !Tryz.prog.wantsStandIn u) = true := by kernel_rfl
        exact (show Tryz.prog.wantsStandIn t = false by simpa using List.all_eq_true.1 hall t hm)⟩)
    (by kernel_rfl)
end spanTexts
end Go.Proofs.YtildhhdbikpbaaaGreatDoor
