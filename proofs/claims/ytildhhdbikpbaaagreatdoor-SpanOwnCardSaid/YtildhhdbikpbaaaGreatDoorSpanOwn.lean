/- spans that were handed in are not changed; what was told may be -/
import Derived.Test.YtildhhdbikpbaaaGreatDoorV7
import Derived.Test.YtildhhdbikpbaaaGreatDoorV8
import Derived.Test.YtildhhdbikpbaaaGreatDoorV2
import Derived.Test.YtildhhdbikpbaaaGreatDoorRows
import Derived.Test.YtildhhdbikpbaaaGreatDoorTie
import Derived.Test.YtildhhdbikpbaaaGreatDoorCards
import Derived.Test.YtildhhdbikpbaaaGreatDoorV5
import Derived.WalkKit
import Derived.ProofKit
import Derived.OpenShut
import Derived.ShutString
import Derived.ChangeOld
import Derived.Below
import Derived.SizedLaws
import Derived.LaidMore
import Derived.Lay
import Derived.SevenTiedAt
import Derived.Stop.Joined
import Derived.KernelRfl
set_option linter.unusedSimpArgs false
/-! SpanOwn -/
namespace Go.Vx.Z
open Go Go.Vx
set_option linter.unusedVariables false
set_option maxRecDepth 100000
theorem same41_0 : B41o_0 = B41_0 := by
  funext ⟨x0, x1, x2, x3, x4, x5, u⟩
  rw [B41o_0_eq, B41_0_eq]
theorem same41_1 : B41o_1 = B41_1 := by
  funext ⟨x0, x1, x2, x3, x4, u⟩
  rw [B41o_1_eq, B41_1_eq]
theorem same16_0 : B16o_0 = B16_0 := by
  funext ⟨x0, x1, x2, x3, x4, x5, x6, x7, x8, x9, x10, x11, x12, x13, x14, x15, x16, x17, x18, x19, u⟩
  rw [B16o_0_eq, B16_0_eq]
theorem same16_1 : B16o_1 = B16_1 := by
  funext ⟨x0, x1, x2, x3, x4, u⟩
  rw [B16o_1_eq, B16_1_eq, same16_0]
theorem same18_0 : B18o_0 = B18_0 := by
  funext ⟨x0, x1, x2, x3, x4, x5, x6, x7, x8, x9, u⟩
  rw [B18o_0_eq, B18_0_eq]
theorem F72o_is (l : List Span) : F72o (l, ()) = some (0, l.length, l, ()) := by
  rw [F72o_eq]
  have : (decide (Int.ofNat 0 ≤ Int.ofNat l.length) && (decide (Int.ofNat l.length ≤ Int.ofNat l.length) && decide (Int.ofNat l.length ≤ Int.ofNat l.length))) = true := by simp
  rw [this]
  simp
theorem bind_inv {α β : Type} {o : Option α} {f : α → Option β} {y : β} (h : Option.bind o f = some y) : ∃ x, o = some x ∧ f x = some y := by
  cases o with
  | none => cases h
  | some x => exact ⟨x, rfl, h⟩
theorem own41 {x : List Piece} {n : List Span} {r : List Piece} (h : F41 (x, ()) = some (n, r, ())) : F41o (x, ()) = some (0, n.length, r, n, ()) := by
  rw [F41_eq] at h
  obtain ⟨a, ha, h⟩ := bind_inv h
  obtain ⟨b, hb, h⟩ := bind_inv h
  obtain ⟨c, hc, h⟩ := bind_inv h
  obtain ⟨d, hd, h⟩ := bind_inv h
  rw [F72_is, obs] at h
  rw [F41o_eq, ha, obs, hb, obs, same41_0, hc, obs, same41_1, hd, obs, F72o_is, obs]
  have h := Option.some.inj h
  simp only [Prod.mk.injEq] at h
  rw [h.1, h.2.1]
theorem own16 {a b n : List Span} (h : F16 (a, b, ()) = some (n, ())) : F16o (a, b, ()) = some (0, n.length, n, ()) := by
  rw [F16_eq] at h
  obtain ⟨c, hc, h⟩ := bind_inv h
  obtain ⟨d, hd, h⟩ := bind_inv h
  obtain ⟨⟨e1, e2, u⟩, he, h⟩ := bind_inv h
  have h := Option.some.inj h
  simp only [Prod.mk.injEq, and_true] at h
  rw [F16o_eq, hc, obs, same16_1, hd, obs, own41 he, obs]
  rw [h]
theorem own17 {a : List (List Span)} {n : List Span} (h : F17 (a, ()) = some (n, ())) : F17o (a, ()) = some (0, n.length, n, ()) := by
  rw [F17_eq] at h
  obtain ⟨c, hc, h⟩ := bind_inv h
  obtain ⟨d, hd, h⟩ := bind_inv h
  obtain ⟨⟨e1, e2, u⟩, he, h⟩ := bind_inv h
  have h := Option.some.inj h
  simp only [Prod.mk.injEq, and_true] at h
  rw [F17o_eq, hc, obs, hd, obs, own41 he, obs]
  rw [h]
theorem own18 {a n : List Span} (h : F18 (a, ()) = some (n, ())) : F18o (a, ()) = some (0, n.length, n, ()) := by
  rw [F18_eq] at h
  obtain ⟨b, hb, h⟩ := bind_inv h
  obtain ⟨c, hc, h⟩ := bind_inv h
  obtain ⟨d, hd, h⟩ := bind_inv h
  rw [F18o_eq, hb, obs, hc, obs, same18_0, hd, obs]
  generalize hw : decide (List.length d.2.2.2.2.2.2.1 + _ ≤ 1466015503701) = w at h ⊢
  cases w with
  | false => cases h
  | true =>
    rw [cond_true] at h ⊢
    obtain ⟨⟨e1, e2, u⟩, he, h⟩ := bind_inv h
    have h := Option.some.inj h
    simp only [Prod.mk.injEq, and_true] at h
    rw [own41 he, obs]
    rw [h]
theorem beq_no {a b : Nat} (h : a ≠ b) : (Int.ofNat a == Int.ofNat b) = false := by
  rw [beq_eq_false_iff_ne]
  exact fun h2 => h (by injection h2)
theorem beq_yes (a : Nat) : (Int.ofNat a == Int.ofNat a) = true := by simp
theorem B13_0_0 (x0 x1 : List Int) (x2 x3 : List Span) (n0 n1 n2 n3 : Nat) (l0 l1 l2 l3 : List Span) (hl : l0.length = n0) (hb : n0 ≤ big) : ∃ b', loop B13_0 (x0, x1, x2, x3, Int.ofNat 0, Int.ofNat 0, 0, n0, 0, n1, 0, n2, 0, n3, l0, l1, l2, l3, ()) = some (x0, x1, x2, x3, Int.ofNat 0, 0, n0, 0, n1, 0, n2, 0, n3, b', l1, l2, l3, ()) ∧ b'.length = n0 := by
  have := loop_upto (B := B13_0) n0 (fun k b => (x0, x1, x2, x3, Int.ofNat 0, (k : Int), 0, n0, 0, n1, 0, n2, 0, n3, b, l1, l2, l3, ())) (fun b => (x0, x1, x2, x3, Int.ofNat 0, 0, n0, 0, n1, 0, n2, 0, n3, b, l1, l2, l3, ())) (fun _ b => b.length = n0) (fun k hk b hI => by
    simp only [big] at hb
    refine ⟨b.set k (Int.ofNat 0, Int.ofNat 0, Int.ofNat 0, (lit []), Int.ofNat 0, Int.ofNat 0, Int.ofNat 0, (lit []), false, false, true, ()), ?_, ?_⟩
    · rw [B13_0_eq]
      have hk' : k < b.length := by omega
      simp only [beq_yes 0, cond_true, cond_false, Nat.sub_zero, Nat.zero_add, lt_in hk, ge_zero, Bool.and_self, at_in hk', obs, wrap_next hk (by omega)]
      rfl
    · simp [hI]) (fun b hI => by
    rw [B13_0_eq]
    simp only [beq_yes 0, cond_true, cond_false, Nat.sub_zero, lt_out]) 0 l0 (Nat.zero_le _) hl
  exact this
theorem B13_0_1 (x0 x1 : List Int) (x2 x3 : List Span) (n0 n1 n2 n3 : Nat) (l0 l1 l2 l3 : List Span) (hl : l1.length = n1) (hb : n1 ≤ big) : ∃ b', loop B13_0 (x0, x1, x2, x3, Int.ofNat 1, Int.ofNat 0, 0, n0, 0, n1, 0, n2, 0, n3, l0, l1, l2, l3, ()) = some (x0, x1, x2, x3, Int.ofNat 1, 0, n0, 0, n1, 0, n2, 0, n3, l0, b', l2, l3, ()) ∧ b'.length = n1 := by
  have := loop_upto (B := B13_0) n1 (fun k b => (x0, x1, x2, x3, Int.ofNat 1, (k : Int), 0, n0, 0, n1, 0, n2, 0, n3, l0, b, l2, l3, ())) (fun b => (x0, x1, x2, x3, Int.ofNat 1, 0, n0, 0, n1, 0, n2, 0, n3, l0, b, l2, l3, ())) (fun _ b => b.length = n1) (fun k hk b hI => by
    simp only [big] at hb
    refine ⟨b.set k (Int.ofNat 0, Int.ofNat 0, Int.ofNat 0, (lit []), Int.ofNat 0, Int.ofNat 0, Int.ofNat 0, (lit []), false, false, true, ()), ?_, ?_⟩
    · rw [B13_0_eq]
      have hk' : k < b.length := by omega
      simp only [beq_yes 1, beq_no (show 1 ≠ 0 by decide), cond_true, cond_false, Nat.sub_zero, Nat.zero_add, lt_in hk, ge_zero, Bool.and_self, at_in hk', obs, wrap_next hk (by omega)]
      rfl
    · simp [hI]) (fun b hI => by
    rw [B13_0_eq]
    simp only [beq_yes 1, beq_no (show 1 ≠ 0 by decide), cond_true, cond_false, Nat.sub_zero, lt_out]) 0 l1 (Nat.zero_le _) hl
  exact this
theorem B13_0_2 (x0 x1 : List Int) (x2 x3 : List Span) (n0 n1 n2 n3 : Nat) (l0 l1 l2 l3 : List Span) (hl : l2.length = n2) (hb : n2 ≤ big) : ∃ b', loop B13_0 (x0, x1, x2, x3, Int.ofNat 2, Int.ofNat 0, 0, n0, 0, n1, 0, n2, 0, n3, l0, l1, l2, l3, ()) = some (x0, x1, x2, x3, Int.ofNat 2, 0, n0, 0, n1, 0, n2, 0, n3, l0, l1, b', l3, ()) ∧ b'.length = n2 := by
  have := loop_upto (B := B13_0) n2 (fun k b => (x0, x1, x2, x3, Int.ofNat 2, (k : Int), 0, n0, 0, n1, 0, n2, 0, n3, l0, l1, b, l3, ())) (fun b => (x0, x1, x2, x3, Int.ofNat 2, 0, n0, 0, n1, 0, n2, 0, n3, l0, l1, b, l3, ())) (fun _ b => b.length = n2) (fun k hk b hI => by
    simp only [big] at hb
    refine ⟨b.set k (Int.ofNat 0, Int.ofNat 0, Int.ofNat 0, (lit []), Int.ofNat 0, Int.ofNat 0, Int.ofNat 0, (lit []), false, false, true, ()), ?_, ?_⟩
    · rw [B13_0_eq]
      have hk' : k < b.length := by omega
      simp only [beq_yes 2, beq_no (show 2 ≠ 0 by decide), beq_no (show 2 ≠ 1 by decide), cond_true, cond_false, Nat.sub_zero, Nat.zero_add, lt_in hk, ge_zero, Bool.and_self, at_in hk', obs, wrap_next hk (by omega)]
      rfl
    · simp [hI]) (fun b hI => by
    rw [B13_0_eq]
    simp only [beq_yes 2, beq_no (show 2 ≠ 0 by decide), beq_no (show 2 ≠ 1 by decide), cond_true, cond_false, Nat.sub_zero, lt_out]) 0 l2 (Nat.zero_le _) hl
  exact this
theorem B13_0_3 (x0 x1 : List Int) (x2 x3 : List Span) (n0 n1 n2 n3 : Nat) (l0 l1 l2 l3 : List Span) (hl : l3.length = n3) (hb : n3 ≤ big) : ∃ b', loop B13_0 (x0, x1, x2, x3, Int.ofNat 3, Int.ofNat 0, 0, n0, 0, n1, 0, n2, 0, n3, l0, l1, l2, l3, ()) = some (x0, x1, x2, x3, Int.ofNat 3, 0, n0, 0, n1, 0, n2, 0, n3, l0, l1, l2, b', ()) ∧ b'.length = n3 := by
  have := loop_upto (B := B13_0) n3 (fun k b => (x0, x1, x2, x3, Int.ofNat 3, (k : Int), 0, n0, 0, n1, 0, n2, 0, n3, l0, l1, l2, b, ())) (fun b => (x0, x1, x2, x3, Int.ofNat 3, 0, n0, 0, n1, 0, n2, 0, n3, l0, l1, l2, b, ())) (fun _ b => b.length = n3) (fun k hk b hI => by
    simp only [big] at hb
    refine ⟨b.set k (Int.ofNat 0, Int.ofNat 0, Int.ofNat 0, (lit []), Int.ofNat 0, Int.ofNat 0, Int.ofNat 0, (lit []), false, false, true, ()), ?_, ?_⟩
    · rw [B13_0_eq]
      have hk' : k < b.length := by omega
      simp only [beq_yes 3, beq_no (show 3 ≠ 0 by decide), beq_no (show 3 ≠ 1 by decide), beq_no (show 3 ≠ 2 by decide), cond_true, cond_false, Nat.sub_zero, Nat.zero_add, lt_in hk, ge_zero, Bool.and_self, at_in hk', obs, wrap_next hk (by omega)]
      rfl
    · simp [hI]) (fun b hI => by
    rw [B13_0_eq]
    simp only [beq_yes 3, beq_no (show 3 ≠ 0 by decide), beq_no (show 3 ≠ 1 by decide), beq_no (show 3 ≠ 2 by decide), cond_true, cond_false, Nat.sub_zero, lt_out]) 0 l3 (Nat.zero_le _) hl
  exact this
theorem B13_1_is (x0 x1 : List Int) (x2 x3 : List Span) (n0 n1 n2 n3 : Nat) (l0 l1 l2 l3 : List Span) (h0 : l0.length = n0) (h1 : l1.length = n1) (h2 : l2.length = n2) (h3 : l3.length = n3) (hb : n0 ≤ big ∧ n1 ≤ big ∧ n2 ≤ big ∧ n3 ≤ big) :
    loop B13_1 (x0, x1, x2, x3, Int.ofNat 0, 0, n0, 0, n1, 0, n2, 0, n3, l0, l1, l2, l3, ()) = some (x0, x1, x2, x3, ()) := by
  obtain ⟨m0, e0, k0⟩ := B13_0_0 x0 x1 x2 x3 n0 n1 n2 n3 l0 l1 l2 l3 h0 hb.1
  obtain ⟨m1, e1, k1⟩ := B13_0_1 x0 x1 x2 x3 n0 n1 n2 n3 m0 l1 l2 l3 h1 hb.2.1
  obtain ⟨m2, e2, k2⟩ := B13_0_2 x0 x1 x2 x3 n0 n1 n2 n3 m0 m1 l2 l3 h2 hb.2.2.1
  obtain ⟨m3, e3, k3⟩ := B13_0_3 x0 x1 x2 x3 n0 n1 n2 n3 m0 m1 m2 l3 h3 hb.2.2.2
  refine loop_step (q := (x0, x1, x2, x3, Int.ofNat 1, 0, n0, 0, n1, 0, n2, 0, n3, m0, l1, l2, l3, ())) ?_ (loop_step (q := (x0, x1, x2, x3, Int.ofNat 2, 0, n0, 0, n1, 0, n2, 0, n3, m0, m1, l2, l3, ())) ?_ (loop_step (q := (x0, x1, x2, x3, Int.ofNat 3, 0, n0, 0, n1, 0, n2, 0, n3, m0, m1, m2, l3, ())) ?_ (loop_step (q := (x0, x1, x2, x3, Int.ofNat 4, 0, n0, 0, n1, 0, n2, 0, n3, m0, m1, m2, m3, ())) ?_ (loop_end ?_))))
  · rw [B13_1_eq, show decide (Int.ofNat 0 < Int.ofNat 4) = true from rfl, cond_true, e0, obs]
    rfl
  · rw [B13_1_eq, show decide (Int.ofNat 1 < Int.ofNat 4) = true from rfl, cond_true, e1, obs]
    rfl
  · rw [B13_1_eq, show decide (Int.ofNat 2 < Int.ofNat 4) = true from rfl, cond_true, e2, obs]
    rfl
  · rw [B13_1_eq, show decide (Int.ofNat 3 < Int.ofNat 4) = true from rfl, cond_true, e3, obs]
    rfl
  · rw [B13_1_eq, show decide (Int.ofNat 4 < Int.ofNat 4) = false from rfl, cond_false]
theorem pure_SpanOwn (x0 x1 : List Int) (h0 : ∀ x ∈ x0, (Lit.int .i64 x).wf = true) (h1 : ∀ x ∈ x1, (Lit.int .i64 x).wf = true) : F13 (x0, x1, ()) = some (true, ()) := by
  obtain ⟨a, fa, na, ra, la, _⟩ := make_is x0
  obtain ⟨b, fb, nb, rb, lb, _⟩ := make_is x1
  obtain ⟨x, fx, nx, dx, lx⟩ := and_says a b na nb (by omega) (by omega)
  have lx' : x.length ≤ 36 := Nat.le_trans lx (Nat.mul_le_mul la lb)
  obtain ⟨y, fy, ny, dy, ly⟩ := or2_says a b na nb (by omega)
  obtain ⟨o, fo, no, do_, lo⟩ := or_says [a] (fun s hs => nrm_ok na s (by simpa using hs)) (by simp only [List.flatten_cons, List.flatten_nil, List.append_nil, big]; omega) (by show 1 ≤ big; decide)
  obtain ⟨z, fz, nz, rz, dz, lz⟩ := not_says a na ra (by simp only [big]; omega)
  have hb : big = 1099511627776 := rfl
  have lo' : o.length ≤ 6 := by simp only [List.flatten_cons, List.flatten_nil, List.append_nil] at lo; omega
  have sa : F19 (a, a, ()) = some (true, ()) := same_is (by omega) rfl
  have sb : F19 (b, b, ()) = some (true, ()) := same_is (by omega) rfl
  rw [F13_eq, fa, obs, fb, obs, own16 fx, obs, own17 fy, obs, own17 fo, obs, own18 fz, obs]
  rw [B13_1_is x0 x1 a b x.length y.length o.length z.length x y o z rfl rfl rfl rfl (by omega), obs, fa, obs, sa, obs, cond_true, fb, obs, sb, obs]
end Go.Vx.Z
namespace Go.Proofs.YtildhhdbikpbaaaGreatDoor
open Go Go.Vx Go.ChangeShapes Go.WideShapes Go.ChangeAt Go.RowKit
open Go.ChangeMaps (open_string shut_string)
set_option linter.unusedVariables false
namespace spanOwn
theorem own : ownKnob Tryz.prog.godebug = none := by kernel_rfl
theorem laidOut : laidOutB Tryz.prog = true := by kernel_rfl
set_option maxRecDepth 100000 in
theorem lifted (os : Os) (started : os.Started) (H : Type) (enc : TypeId × Value → H) :
    ReturnsInHanded {} Tryz.checked os 13 .any (fun w args => (Rows.spanOwnSpec.pre enc Tryz.prog Tryz.f13 Rows.spanOwnRow.domain false w args ∧ laidMetH Tryz.prog Rows.spanOwnRow.laid w) ∧ sizedMet enc Tryz.prog Tryz.f13 (OpenSpec.ofChange Rows.spanOwnSpec) false w args)
      (Rows.spanOwnSpec.post enc Tryz.prog Tryz.f13 false true false false) := by
  refine returnsInHanded_of_change_and (C := Tryz.checked) (X := fun w _ => laidMetH Tryz.prog Rows.spanOwnRow.laid w) (fun _ _ _ hh h => h.of_heap hh) own started (by kernel_rfl) Tryz.func13
    (ChangeSpec.witness_shaped (enc := enc) (C := Tryz.checked) (os := os) (X := fun w _ => laidMetH Tryz.prog Rows.spanOwnRow.laid w) false (World.laidAll Tryz.prog os Rows.spanOwnRow.laid) #[.slice none 0 0, .slice none 0 0] 8 (World.laidAll_os _ _ _)
      (World.shaped_of_ZipB (by kernel_rfl) (by kernel_rfl)) (by kernel_rfl) (by kernel_rfl) (by kernel_rfl)
      (by rw [MakeChecks.laidMetH_plain _ _ _ (by kernel_rfl)]; exact laidMet_laidAll _ (by kernel_rfl) (by kernel_rfl))) ?_
  intro W base args ds gs before hval0 hW hc hsz0 hL _
  have hsz : (DataW.weightsEach Tryz.prog (Tryz.f13.params.toList ++ Rows.spanOwnSpec.plain.varTypes Tryz.prog) (ds ++ gs)).all (· ≤ reachBytes) = true := hsz0
  have hval : ∀ (j : Nat) t v, Tryz.f13.params[j]? = some t → args[j]? = some v → Value.okWide Tryz.prog W .any base t v := hval0
  have hW' := hW
  obtain ⟨p, q, hA0, hV, rfl, hfz, hnd⟩ := hW
  have hA : DataW.TrodAll enc Tryz.prog W 0 (fun _ => true) true Tryz.f13.params.toList args.toList ds p := hA0
  rw [Tryz.params13] at hA hval hsz
  obtain ⟨v0, vs0, d0, ds0, p0, q0, hargs, rfl, rfl, h0, r0⟩ := trodAll_cons hA
  obtain ⟨v1, vs1, d1, ds1, p1, q1, rfl, rfl, rfl, h1, r1⟩ := trodAll_cons r0
  obtain ⟨rfl, rfl, rfl⟩ := trodAll_nil r1
  obtain rfl : args = #[v0, v1] := by cases args; simp_all
  obtain ⟨rfl, rfl⟩ := trodVars_none hV
  obtain ⟨a0, len0, cap0, rfl⟩ := okWide_slice Tryz.underlying22 (hval 0 22 v0 rfl rfl)
  have k0 := h0
  have lt0 : ∀ x ∈ p0, x.block < W.heap.size := by obtain ⟨m, hm⟩ := k0; exact DataW.trod_lt m _ _ _ hm
  obtain ⟨z0, w0⟩ : ∃ zs, IsRow .i64 W a0 len0 cap0 zs := by
    obtain ⟨fuel, hf⟩ := h0
    rcases open_ints Tryz.underlying22 Tryz.underlying3 (by kernel_rfl) hf with ⟨hcs, _⟩ | ⟨x, l, c, zs, hcs, _, hl, hm, hz, _, hcell, hwz⟩
    · simp [Value.cells] at hcs
      obtain ⟨rfl, rfl, rfl⟩ := hcs
      exact ⟨[], .inl ⟨rfl, rfl, rfl, rfl⟩⟩
    · simp [Value.cells] at hcs
      obtain ⟨rfl, rfl, rfl⟩ := hcs
      exact ⟨zs, .inr ⟨_, rfl, hl, hm, by simpa using hz, hcell, hwz⟩⟩
  have wf0 : ∀ x ∈ z0.take len0, (Lit.int .i64 x).wf = true := by
    rcases w0 with ⟨_, _, _, rfl⟩ | ⟨_, _, _, _, _, _, hwf⟩
    · simp
    · exact fun x hx => hwf x (List.mem_of_mem_take hx)
  obtain ⟨a1, len1, cap1, rfl⟩ := okWide_slice Tryz.underlying22 (hval 1 22 v1 rfl rfl)
  have k1 := h1
  have lt1 : ∀ x ∈ p1, x.block < W.heap.size := by obtain ⟨m, hm⟩ := k1; exact DataW.trod_lt m _ _ _ hm
  obtain ⟨z1, w1⟩ : ∃ zs, IsRow .i64 W a1 len1 cap1 zs := by
    obtain ⟨fuel, hf⟩ := h1
    rcases open_ints Tryz.underlying22 Tryz.underlying3 (by kernel_rfl) hf with ⟨hcs, _⟩ | ⟨x, l, c, zs, hcs, _, hl, hm, hz, _, hcell, hwz⟩
    · simp [Value.cells] at hcs
      obtain ⟨rfl, rfl, rfl⟩ := hcs
      exact ⟨[], .inl ⟨rfl, rfl, rfl, rfl⟩⟩
    · simp [Value.cells] at hcs
      obtain ⟨rfl, rfl, rfl⟩ := hcs
      exact ⟨zs, .inr ⟨_, rfl, hl, hm, by simpa using hz, hcell, hwz⟩⟩
  have wf1 : ∀ x ∈ z1.take len1, (Lit.int .i64 x).wf = true := by
    rcases w1 with ⟨_, _, _, rfl⟩ | ⟨_, _, _, _, _, _, hwf⟩
    · simp
    · exact fun x hx => hwf x (List.mem_of_mem_take hx)
  clear hA0 hval0 hsz0 hsz
  have hst : ∀ y, (RowS a0 z0.length y ∨ RowS a1 z1.length y) → y.spot = none ∧ ∃ v, W.cell? y = some v := by
    intro y hy
    rcases hy with hy | hy
    · exact isRow_st w0 hy
    · exact isRow_st w1 hy
  have hL1 : laidMet Tryz.prog Rows.spanOwnRow.laid W := by rw [← MakeChecks.laidMetH_plain _ _ _ (by kernel_rfl)]; exact hL
  have hG := ground_of_laid hL1 (List.mem_cons_of_mem _ (List.mem_cons_of_mem _ List.mem_cons_self)) (by kernel_rfl) (g := 1) (t := 193) (n := 20) (e := 153) (by kernel_rfl) (by kernel_rfl) Tryz.underlying193 Tryz.underlying153 (by kernel_rfl) (by kernel_rfl)
  refine (law_calls (Go.Vx.Z.ok13) rfl (enters_of Tryz.func13 (by kernel_rfl) rfl) hG.1 hG.2 (S := fun y => RowS a0 z0.length y ∨ RowS a1 z1.length y) hst ((z0.take len0), (z1.take len1), ()) (Go.Vx.Z.pure_SpanOwn (z0.take len0) (z1.take len1) wf0 wf1) rfl (fun i => ?_)).mono fun e W' ⟨he, bel⟩ => ?_
  · match i with
    | 0 => exact isRow_rep w0 (fun y hy => .inl hy)
    | 1 => exact isRow_rep w1 (fun y hy => .inr (hy))
    | i + 2 => trivial
  subst he
  exact ⟨_, rfl, _, _, _, [], _, [], hW', trodAll_mk1 (shut_bool Tryz.underlying4 _), (trodAll_cons_mk (Below.trod laidOut (by kernel_rfl) (of_decide_eq_true (by kernel_rfl)) k0 bel lt0) (trodAll_cons_mk (Below.trod laidOut (by kernel_rfl) (of_decide_eq_true (by kernel_rfl)) k1 bel lt1) trodAll_mk0)), rfl, bel.frame _, fun h => by cases h⟩
theorem holds : Rows.SpanOwnSaid :=
  OpenClaim.holds_of_wide 13 Tryz.f13 rfl rfl rfl rfl rfl rfl rfl ⟨rfl, rfl, rfl, rfl, rfl⟩ rfl rfl rfl rfl rfl (by kernel_rfl) Tryz.func13 (by kernel_rfl)
    (of_decide_eq_true (by kernel_rfl)) (by unfold Func.isWrapper; first | (rw [if_pos (by decide +kernel)]; kernel_rfl) | (rw [if_neg (by decide +kernel)]; exact ⟨rfl, rfl⟩))
    (fun os started H enc _ => lifted os started H enc)
theorem card_holds : Rows.SpanOwnCardSaid :=
  Claim7.holds_tied_plain_at .later [] [.data, .data, .data, .data, .pinned] true (true, "677dda388697c3be81f00c8f3e7162a91e326615aec89fc25f0adc6f7f408f5b") false holds (fun _ h => by cases h) (by kernel_rfl) (fun _ h => by cases h) spanOwn_row_tie rfl ⟨rfl, rfl⟩ (by kernel_rfl) rfl
    (fun f fn hf hfn => by
      obtain rfl : f = 13 := Option.some.inj ((show Tryz.prog.funcNamed "transhumance/transhumancelaw3.SpanOwn" = some 13 by kernel_rfl).symm.trans hf) |>.symm
      obtain rfl : fn = Tryz.f13 := (Option.some.inj (Tryz.func13.symm.trans hfn)).symm
      exact ⟨by kernel_rfl, fun j t ht => by
        rw [Tryz.params13] at ht
        have hm : t ∈ [22, 22] := by simpa using Array.mem_of_getElem? ht
        have hall : ([22, 22].all fun u => !Tryz.prog.wantsStandIn u) = true := by kernel_rfl
        exact (show Tryz.prog.wantsStandIn t = false by simpa using List.all_eq_true.1 hall t hm)⟩)
    (by kernel_rfl)
end spanOwn
end Go.Proofs.YtildhhdbikpbaaaGreatDoor
