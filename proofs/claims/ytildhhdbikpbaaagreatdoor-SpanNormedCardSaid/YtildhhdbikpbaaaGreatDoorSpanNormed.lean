/- What And, Or, Not tell is normed: none empty, rising, apart; whatever the numbers. -/
import Derived.Test.YtildhhdbikpbaaaGreatDoorV8
import Derived.Test.YtildhhdbikpbaaaGreatDoorV2
import Derived.Test.YtildhhdbikpbaaaGreatDoorRows
import Derived.Test.YtildhhdbikpbaaaGreatDoorTie
import Derived.Test.YtildhhdbikpbaaaGreatDoorCards
import Derived.Test.YtildhhdbikpbaaaGreatDoorV5
import Derived.WalkKit
import Derived.ProofKit
import Derived.OpenShut
import Derived.ShutString
import Derived.ChangeOld
import Derived.Below
import Derived.SizedLaws
import Derived.LaidMore
import Derived.Lay
import Derived.SevenTiedAt
import Derived.Stop.Joined
import Derived.KernelRfl
set_option linter.unusedSimpArgs false
/-! SpanNormed -/
namespace Go.Vx.Z
open Go Go.Vx
set_option linter.unusedVariables false
set_option maxRecDepth 100000
theorem open_last {L : List Span} (h : Nrm L) {k : Nat} (hk : k < L.length) (ho : L[k].op = true) : ¬ k + 1 < L.length := by
  intro hlt
  have h1 := h.1.1
  rw [List.pairwise_map] at h1
  have h2 := List.pairwise_iff_getElem.1 h1 k (k + 1) hk hlt (by omega)
  rw [kOf_2, if_pos ho, kOf_1] at h2
  exact end_lt _ _ h2
theorem B8_0_is (ls : List (List Span)) (i : Nat) (hi : i < ls.length) (hn : Nrm ls[i]) (hl : ls[i].length ≤ big) : loop B8_0 ((i : Int), Int.ofNat 0, ls, ()) = some (.inr ((i : Int), ls, ())) := by
  have := loop_row (B := B8_0) (fun k => ((i : Int), (k : Int), ls, ())) ls[i].length (e := .inr ((i : Int), ls, ())) (fun k hk => by
    rw [B8_0_eq]
    simp only [ge_zero, cond_true, at_in hi, obs, lt_in hk, at_in hk, wrap_next hk (show ls[i].length ≤ _ by simp only [big] at hl; omega)]
    cases ho : ls[i][k].2.2.2.2.2.2.2.2.2.2.1 with
    | false => rfl
    | true =>
      have h1 := open_last hn hk ho
      have h2 : decide (((k + 1 : Nat) : Int) < Int.ofNat ls[i].length) = false := decide_eq_false (by show ¬ ((k + 1 : Nat) : Int) < (ls[i].length : Int); omega)
      obtain ⟨h3, h4⟩ := (hn.2 _ (List.getElem_mem hk)).2 ho
      have h4 : ls[i][k].2.2.2.2.2.2.2.2.2.1 = false := h4
      simp only [Span.hi, v0, Prod.mk.injEq] at h3
      obtain ⟨g1, g2, g3, g4, _⟩ := h3
      simp only [h2, h4, g1, g2, g3, g4, cond_true, cond_false]
      rfl) (by
    rw [B8_0_eq]
    simp only [ge_zero, cond_true, at_in hi, obs, lt_out, cond_false])
  exact this
theorem norm_self {L : List Span} (h : Nrm L) (hl : L.length < big) : F36 (L, ()) = some (L, ()) := by
  obtain ⟨R, h1, h2, h3, _⟩ := norm_says L (nrm_ok h) hl
  rw [h1, nrm_uniq h2 h h3]
theorem pure_SpanNormed (x0 x1 : List Int) (h0 : ∀ x ∈ x0, (Lit.int .i64 x).wf = true) (h1 : ∀ x ∈ x1, (Lit.int .i64 x).wf = true) : F8 (x0, x1, ()) = some (true, ()) := by
  obtain ⟨a, fa, na, ra, la, _⟩ := make_is x0
  obtain ⟨b, fb, nb, rb, lb, _⟩ := make_is x1
  obtain ⟨x, fx, nx, dx, lx⟩ := and_says a b na nb (by omega) (by omega)
  have lx' : x.length ≤ 36 := Nat.le_trans lx (Nat.mul_le_mul la lb)
  obtain ⟨y, fy, ny, dy, ly⟩ := or2_says a b na nb (by omega)
  obtain ⟨z, fz, nz, rz, dz, lz⟩ := not_says a na ra (by simp only [big]; omega)
  have hb : big = 1099511627776 := rfl
  have hall : ∀ i (h : i < [x, y, z].length), Nrm [x, y, z][i] ∧ [x, y, z][i].length ≤ 1000000 := by
    intro i h
    match i, h with
    | 0, _ => exact ⟨nx, by show x.length ≤ _; omega⟩
    | 1, _ => exact ⟨ny, by show y.length ≤ _; omega⟩
    | 2, _ => exact ⟨nz, by show z.length ≤ _; omega⟩
  rw [F8_eq]
  simp only [fa, fb, fx, fy, fz, obs]
  have h3 : [x, y, z].length = 3 := rfl
  generalize [x, y, z] = ls at *
  have := loop_row (B := B8_1) (fun i => ((i : Int), ls, ())) 3 (e := .inr ()) (fun i hi => by
    obtain ⟨n1, n2⟩ := hall i (by omega)
    have hi' : i < ls.length := by omega
    have e1 : decide ((i : Int) < Int.ofNat 3) = true := decide_eq_true (by show (i : Int) < 3; omega)
    rw [B8_1_eq]
    simp only [e1, ge_zero, cond_true, at_in hi', obs]
    rw [norm_self n1 (by omega), obs, same_is n2 rfl, obs]
    simp only [Bool.not_true, cond_false]
    rw [B8_0_is ls i hi' n1 (by omega), obs]
    simp only [Sum.elim_inr, wrap_next hi (show 3 ≤ _ by omega)]) (by
    rw [B8_1_eq]
    rfl)
  have h0' : loop B8_1 (Int.ofNat 0, ls, ()) = some (.inr ()) := this
  rw [h0', obs]
  rfl
end Go.Vx.Z
namespace Go.Proofs.YtildhhdbikpbaaaGreatDoor
open Go Go.Vx Go.ChangeShapes Go.WideShapes Go.ChangeAt Go.RowKit
open Go.ChangeMaps (open_string shut_string)
set_option linter.unusedVariables false
namespace spanNormed
theorem own : ownKnob Tryz.prog.godebug = none := by kernel_rfl
theorem laidOut : laidOutB Tryz.prog = true := by kernel_rfl
set_option maxRecDepth 100000 in
theorem lifted (os : Os) (started : os.Started) (H : Type) (enc : TypeId × Value → H) :
    ReturnsInHanded {} Tryz.checked os 8 .any (fun w args => (Rows.spanNormedSpec.pre enc Tryz.prog Tryz.f8 Rows.spanNormedRow.domain false w args ∧ laidMetH Tryz.prog Rows.spanNormedRow.laid w) ∧ sizedMet enc Tryz.prog Tryz.f8 (OpenSpec.ofChange Rows.spanNormedSpec) false w args)
      (Rows.spanNormedSpec.post enc Tryz.prog Tryz.f8 false true false false) := by
  refine returnsInHanded_of_change_and (C := Tryz.checked) (X := fun w _ => laidMetH Tryz.prog Rows.spanNormedRow.laid w) (fun _ _ _ hh h => h.of_heap hh) own started (by kernel_rfl) Tryz.func8
    (ChangeSpec.witness_shaped (enc := enc) (C := Tryz.checked) (os := os) (X := fun w _ => laidMetH Tryz.prog Rows.spanNormedRow.laid w) false (World.laidAll Tryz.prog os Rows.spanNormedRow.laid) #[.slice none 0 0, .slice none 0 0] 8 (World.laidAll_os _ _ _)
      (World.shaped_of_ZipB (by kernel_rfl) (by kernel_rfl)) (by kernel_rfl) (by kernel_rfl) (by kernel_rfl)
      (by rw [MakeChecks.laidMetH_plain _ _ _ (by kernel_rfl)]; exact laidMet_laidAll _ (by kernel_rfl) (by kernel_rfl))) ?_
  intro W base args ds gs before hval0 hW hc hsz0 hL _
  have hsz : (DataW.weightsEach Tryz.prog (Tryz.f8.params.toList ++ Rows.spanNormedSpec.plain.varTypes Tryz.prog) (ds ++ gs)).all (· ≤ reachBytes) = true := hsz0
  have hval : ∀ (j : Nat) t v, Tryz.f8.params[j]? = some t → args[j]? = some v → Value.okWide Tryz.prog W .any base t v := hval0
  have hW' := hW
  obtain ⟨p, q, hA0, hV, rfl, hfz, hnd⟩ := hW
  have hA : DataW.TrodAll enc Tryz.prog W 0 (fun _ => true) true Tryz.f8.params.toList args.toList ds p := hA0
  rw [Tryz.params8] at hA hval hsz
  obtain ⟨v0, vs0, d0, ds0, p0, q0, hargs, rfl, rfl, h0, r0⟩ := trodAll_cons hA
  obtain ⟨v1, vs1, d1, ds1, p1, q1, rfl, rfl, rfl, h1, r1⟩ := trodAll_cons r0
  obtain ⟨rfl, rfl, rfl⟩ := trodAll_nil r1
  obtain rfl : args = #[v0, v1] := by cases args; simp_all
  obtain ⟨rfl, rfl⟩ := trodVars_none hV
  obtain ⟨a0, len0, cap0, rfl⟩ := okWide_slice Tryz.underlying22 (hval 0 22 v0 rfl rfl)
  have k0 := h0
  have lt0 : ∀ x ∈ p0, x.block < W.heap.size := by obtain ⟨m, hm⟩ := k0; exact DataW.trod_lt m _ _ _ hm
  obtain ⟨z0, w0⟩ : ∃ zs, IsRow .i64 W a0 len0 cap0 zs := by
    obtain ⟨fuel, hf⟩ := h0
    rcases open_ints Tryz.underlying22 Tryz.underlying3 (by kernel_rfl) hf with ⟨hcs, _⟩ | ⟨x, l, c, zs, hcs, _, hl, hm, hz, _, hcell, hwz⟩
    · simp [Value.cells] at hcs
      obtain ⟨rfl, rfl, rfl⟩ := hcs
      exact ⟨[], .inl ⟨rfl, rfl, rfl, rfl⟩⟩
    · simp [Value.cells] at hcs
      obtain ⟨rfl, rfl, rfl⟩ := hcs
      exact ⟨zs, .inr ⟨_, rfl, hl, hm, by simpa using hz, hcell, hwz⟩⟩
  have wf0 : ∀ x ∈ z0.take len0, (Lit.int .i64 x).wf = true := by
    rcases w0 with ⟨_, _, _, rfl⟩ | ⟨_, _, _, _, _, _, hwf⟩
    · simp
    · exact fun x hx => hwf x (List.mem_of_mem_take hx)
  obtain ⟨a1, len1, cap1, rfl⟩ := okWide_slice Tryz.underlying22 (hval 1 22 v1 rfl rfl)
  have k1 := h1
  have lt1 : ∀ x ∈ p1, x.block < W.heap.size := by obtain ⟨m, hm⟩ := k1; exact DataW.trod_lt m _ _ _ hm
  obtain ⟨z1, w1⟩ : ∃ zs, IsRow .i64 W a1 len1 cap1 zs := by
    obtain ⟨fuel, hf⟩ := h1
    rcases open_ints Tryz.underlying22 Tryz.underlying3 (by kernel_rfl) hf with ⟨hcs, _⟩ | ⟨x, l, c, zs, hcs, _, hl, hm, hz, _, hcell, hwz⟩
    · simp [Value.cells] at hcs
      obtain ⟨rfl, rfl, rfl⟩ := hcs
      exact ⟨[], .inl ⟨rfl, rfl, rfl, rfl⟩⟩
    · simp [Value.cells] at hcs
      obtain ⟨rfl, rfl, rfl⟩ := hcs
      exact ⟨zs, .inr ⟨_, rfl, hl, hm, by simpa using hz, hcell, hwz⟩⟩
  have wf1 : ∀ x ∈ z1.take len1, (Lit.int .i64 x).wf = true := by
    rcases w1 with ⟨_, _, _, rfl⟩ | ⟨_, _, _, _, _, _, hwf⟩
    · simp
    · exact fun x hx => hwf x (List.mem_of_mem_take hx)
  clear hA0 hval0 hsz0 hsz
  have hst : ∀ y, (RowS a0 z0.length y ∨ RowS a1 z1.length y) → y.spot = none ∧ ∃ v, W.cell? y = some v := by
    intro y hy
    rcases hy with hy | hy
    · exact isRow_st w0 hy
    · exact isRow_st w1 hy
  have hL1 : laidMet Tryz.prog Rows.spanNormedRow.laid W := by rw [← MakeChecks.laidMetH_plain _ _ _ (by kernel_rfl)]; exact hL
  have hG := ground_of_laid hL1 (List.mem_cons_of_mem _ (List.mem_cons_of_mem _ List.mem_cons_self)) (by kernel_rfl) (g := 1) (t := 193) (n := 20) (e := 153) (by kernel_rfl) (by kernel_rfl) Tryz.underlying193 Tryz.underlying153 (by kernel_rfl) (by kernel_rfl)
  refine (law_calls (Go.Vx.Z.ok8) rfl (enters_of Tryz.func8 (by kernel_rfl) rfl) hG.1 hG.2 (S := fun y => RowS a0 z0.length y ∨ RowS a1 z1.length y) hst ((z0.take len0), (z1.take len1), ()) (Go.Vx.Z.pure_SpanNormed (z0.take len0) (z1.take len1) wf0 wf1) rfl (fun i => ?_)).mono fun e W' ⟨he, bel⟩ => ?_
  · match i with
    | 0 => exact isRow_rep w0 (fun y hy => .inl hy)
    | 1 => exact isRow_rep w1 (fun y hy => .inr (hy))
    | i + 2 => trivial
  subst he
  exact ⟨_, rfl, _, _, _, [], _, [], hW', trodAll_mk1 (shut_bool Tryz.underlying4 _), (trodAll_cons_mk (Below.trod laidOut (by kernel_rfl) (of_decide_eq_true (by kernel_rfl)) k0 bel lt0) (trodAll_cons_mk (Below.trod laidOut (by kernel_rfl) (of_decide_eq_true (by kernel_rfl)) k1 bel lt1) trodAll_mk0)), rfl, bel.frame _, fun h => by cases h⟩
theorem holds : Rows.SpanNormedSaid :=
  OpenClaim.holds_of_wide 8 Tryz.f8 rfl rfl rfl rfl rfl rfl rfl ⟨rfl, rfl, rfl, rfl, rfl⟩ rfl rfl rfl rfl rfl (by kernel_rfl) Tryz.func8 (by kernel_rfl)
    (of_decide_eq_true (by kernel_rfl)) (by unfold Func.isWrapper; first | (rw [if_pos (by decide +kernel)]; kernel_rfl) | (rw [if_neg (by decide +kernel)]; exact ⟨rfl, rfl⟩))
    (fun os started H enc _ => lifted os started H enc)
theorem card_holds : Rows.SpanNormedCardSaid :=
  Claim7.holds_tied_plain_at .later [] [.data, .data, .data, .data, .pinned] true (true, "677dda388697c3be81f00c8f3e7162a91e326615aec89fc25f0adc6f7f408f5b") false holds (fun _ h => by cases h) (by kernel_rfl) (fun _ h => by cases h) spanNormed_row_tie rfl ⟨rfl, rfl⟩ (by kernel_rfl) rfl
    (fun f fn hf hfn => by
      obtain rfl : f = 8 := Option.some.inj ((show Tryz.prog.funcNamed "transhumance/transhumancelaw3.SpanNormed" = some 8 by kernel_rfl).symm.trans hf) |>.symm
      obtain rfl : fn = Tryz.f8 := (Option.some.inj (Tryz.func8.symm.trans hfn)).symm
      exact ⟨by kernel_rfl, fun j t ht => by
        rw [Tryz.params8] at ht
        have hm : t ∈ [22, 22] := by simpa using Array.mem_of_getElem? ht
        have hall : ([22, 22].all fun u => !Tryz.prog.wantsStandIn u) = true := by kernel_rfl
        exact (show Tryz.prog.wantsStandIn t = false by simpa using List.all_eq_true.1 hall t hm)⟩)
    (by kernel_rfl)
end spanNormed
end Go.Proofs.YtildhhdbikpbaaaGreatDoor
