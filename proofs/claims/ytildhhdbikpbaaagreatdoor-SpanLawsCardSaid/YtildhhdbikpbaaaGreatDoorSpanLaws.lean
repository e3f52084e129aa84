/- The laws of sets hold of the spans that are made, whatever the numbers: not not, not or, and over or, or with not, and with not, or of one, or of none, or turned. -/
import Derived.Test.YtildhhdbikpbaaaGreatDoorV6
import Derived.Test.YtildhhdbikpbaaaGreatDoorV2
import Derived.Test.YtildhhdbikpbaaaGreatDoorRows
import Derived.Test.YtildhhdbikpbaaaGreatDoorTie
import Derived.Test.YtildhhdbikpbaaaGreatDoorCards
import Derived.Test.YtildhhdbikpbaaaGreatDoorV5
import Derived.WalkKit
import Derived.ProofKit
import Derived.OpenShut
import Derived.ShutString
import Derived.ChangeOld
import Derived.Below
import Derived.SizedLaws
import Derived.LaidMore
import Derived.Lay
import Derived.SevenTiedAt
import Derived.Stop.Joined
import Derived.KernelRfl
set_option linter.unusedSimpArgs false
/-! SpanLaws -/
namespace Go.Vx.Z
open Go Go.Vx
set_option linter.unusedVariables false
set_option maxRecDepth 100000
theorem len0 {L : List Span} (h : Nrm L) (hd : ∀ x, ¬ den L x) : L = [] := nrm_uniq h ⟨by simp [Pc.Nm], by simp⟩ fun x => ⟨fun h => absurd h (hd x), fun h => absurd h (den_nil x)⟩
theorem or2_says (a b : List Span) (ha : Nrm a) (hb : Nrm b) (hl : a.length + b.length ≤ 1000000) : ∃ R, F17 ([a, b], ()) = some (R, ()) ∧ Nrm R ∧ (∀ x, den R x ↔ den a x ∨ den b x) ∧ R.length ≤ a.length + b.length := by
  have e : [a, b].flatten = a ++ b := by simp
  obtain ⟨R, h1, h2, h3, h4⟩ := or_says [a, b] (fun s hs => by
    rw [e] at hs
    rcases List.mem_append.1 hs with h | h
    · exact nrm_ok ha s h
    · exact nrm_ok hb s h) (by rw [e, List.length_append]; simp only [big]; omega) (by show 2 ≤ big; decide)
  rw [e] at h3 h4
  exact ⟨R, h1, h2, fun x => by rw [h3, den_append], by simpa using h4⟩
theorem or_rng {a b R : List Span} (ha : Rng a) (hb : Rng b) (hR : Nrm R) (h : ∀ x, den R x ↔ den a x ∨ den b x) : Rng R := den_rng hR fun x hx => by
  rcases (h x).1 hx with h | h
  · exact (rng_den ha h).1
  · exact (rng_den hb h).1
theorem nrm_nil : Nrm [] ∧ Rng [] := ⟨⟨by simp [Pc.Nm], by simp⟩, by simp [Rng]⟩
open Classical in
theorem same_is {a b : List Span} (hl : a.length ≤ 1000000) (h : a = b) : F19 (a, b, ()) = some (true, ()) := by
  rw [F19_is a b (by simp only [big]; omega), decide_eq_true h]
theorem pure_SpanLaws (x0 x1 x2 : List Int) (h0 : ∀ x ∈ x0, (Lit.int .i64 x).wf = true) (h1 : ∀ x ∈ x1, (Lit.int .i64 x).wf = true) (h2 : ∀ x ∈ x2, (Lit.int .i64 x).wf = true) : F4 (x0, x1, x2, ()) = some (true, ()) := by
  obtain ⟨a, fa, na, ra, la, _⟩ := make_is x0
  obtain ⟨b, fb, nb, rb, lb, _⟩ := make_is x1
  obtain ⟨c, fc, nc, rc, lc, _⟩ := make_is x2
  obtain ⟨A, fA, nA, rA, dA, lA⟩ := not_says a na ra (by simp only [big]; omega)
  obtain ⟨AA, fAA, nAA, rAA, dAA, lAA⟩ := not_says A nA rA (by simp only [big]; omega)
  obtain ⟨B, fB, nB, rB, dB, lB⟩ := not_says b nb rb (by simp only [big]; omega)
  obtain ⟨ab, fab, nab, dab, lab⟩ := or2_says a b na nb (by omega)
  have rab := or_rng ra rb nab dab
  obtain ⟨AB, fAB, nAB, rAB, dAB, lAB⟩ := not_says ab nab rab (by simp only [big]; omega)
  obtain ⟨aB, faB, naB, daB, laB⟩ := and_says A B nA nB (by omega) (by omega)
  obtain ⟨bc, fbc, nbc, dbc, lbc⟩ := or2_says b c nb nc (by omega)
  obtain ⟨abc, fabc, nabc, dabc, labc⟩ := and_says a bc na nbc (by omega) (by omega)
  obtain ⟨p, fp, np, dp, lp⟩ := and_says a b na nb (by omega) (by omega)
  obtain ⟨q, fq, nq, dq, lq⟩ := and_says a c na nc (by omega) (by omega)
  have lp' : p.length ≤ 36 := Nat.le_trans lp (Nat.mul_le_mul la lb)
  have lq' : q.length ≤ 36 := Nat.le_trans lq (Nat.mul_le_mul la lc)
  obtain ⟨pq, fpq, npq, dpq, lpq⟩ := or2_says p q np nq (by omega)
  obtain ⟨aA, faA, naA, daA, laA⟩ := or2_says a A na nA (by omega)
  obtain ⟨N, fN, nN, rN, dN, lN⟩ := not_says [] nrm_nil.1 nrm_nil.2 (by decide)
  obtain ⟨z, fz, nz, dz, lz⟩ := and_says a A na nA (by omega) (by omega)
  obtain ⟨o, fo, no, do_, lo⟩ := or_says [a] (fun s hs => nrm_ok na s (by simpa using hs)) (by simp only [List.flatten_cons, List.flatten_nil, List.append_nil, big]; omega) (by show 1 ≤ big; decide)
  obtain ⟨e, fe, ne, de, le⟩ := or_says [] (by simp) (by show 0 ≤ big; decide) (by show 0 ≤ big; decide)
  obtain ⟨ba, fba, nba, dba, lba⟩ := or2_says b a nb na (by omega)
  have c1 : AA = a := nrm_uniq nAA na fun x => by
    rw [dAA, dA]
    constructor
    · rintro ⟨h1, h2, h3⟩
      exact Classical.byContradiction fun h => h3 ⟨h1, h2, h⟩
    · intro h
      obtain ⟨h1, h2⟩ := rng_den ra h
      exact ⟨h1, h2, fun h3 => h3.2.2 h⟩
  have c2 : AB = aB := nrm_uniq nAB naB fun x => by
    rw [dAB, daB, dab, dA, dB]
    constructor
    · rintro ⟨h1, h2, h3⟩
      exact ⟨⟨h1, h2, fun h => h3 (.inl h)⟩, ⟨h1, h2, fun h => h3 (.inr h)⟩⟩
    · rintro ⟨⟨h1, h2, h3⟩, ⟨_, _, h4⟩⟩
      exact ⟨h1, h2, fun h => h.elim h3 h4⟩
  have c3 : abc = pq := nrm_uniq nabc npq fun x => by
    rw [dabc, dpq, dbc, dp, dq]
    exact and_or_left
  have c4 : aA = N := nrm_uniq naA nN fun x => by
    rw [daA, dN, dA]
    constructor
    · rintro (h | h)
      · obtain ⟨h1, h2⟩ := rng_den ra h
        exact ⟨h1, h2, den_nil x⟩
      · exact ⟨h.1, h.2.1, den_nil x⟩
    · rintro ⟨h1, h2, _⟩
      by_cases h : den a x
      · exact .inl h
      · exact .inr ⟨h1, h2, h⟩
  have c5 : z = [] := len0 nz fun x h => by
    rw [dz, dA] at h
    exact h.2.2.2 h.1
  have c6 : o = a := nrm_uniq no na fun x => by
    rw [do_]
    simp
  have c7 : e = [] := len0 ne fun x h => by
    rw [de] at h
    exact den_nil x h
  have c8 : ba = ab := nrm_uniq nba nab fun x => by
    rw [dba, dab]
    exact or_comm
  rw [F4_eq]
  simp only [fa, fb, fc, fA, fAA, fB, fab, fAB, faB, fbc, fabc, fp, fq, fpq, faA, fN, fz, fo, fe, fba, Option.bind_some]
  have labc' : abc.length ≤ 72 := Nat.le_trans labc (Nat.le_trans (Nat.mul_le_mul la (show bc.length ≤ 12 by omega)) (by decide))
  rw [same_is (by omega) c1, Option.bind_some, cond_true, same_is (by omega) c2, Option.bind_some, cond_true, same_is (by omega) c3, Option.bind_some, cond_true, same_is (by omega) c4, Option.bind_some, cond_true, c5, c7]
  have lo' : o.length ≤ 6 := by rw [c6]; exact la
  rw [same_is (by omega) c6, Option.bind_some, same_is (by omega) c8]
  rfl
end Go.Vx.Z
namespace Go.Proofs.YtildhhdbikpbaaaGreatDoor
open Go Go.Vx Go.ChangeShapes Go.WideShapes Go.ChangeAt Go.RowKit
open Go.ChangeMaps (open_string shut_string)
set_option linter.unusedVariables false
namespace spanLaws
theorem own : ownKnob Tryz.prog.godebug = none := by kernel_rfl
theorem laidOut : laidOutB Tryz.prog = true := by kernel_rfl
set_option maxRecDepth 100000 in
theorem lifted (os : Os) (started : os.Started) (H : Type) (enc : TypeId × Value → H) :
    ReturnsInHanded {} Tryz.checked os 4 .any (fun w args => (Rows.spanLawsSpec.pre enc Tryz.prog Tryz.f4 Rows.spanLawsRow.domain false w args ∧ laidMetH Tryz.prog Rows.spanLawsRow.laid w) ∧ sizedMet enc Tryz.prog Tryz.f4 (OpenSpec.ofChange Rows.spanLawsSpec) false w args)
      (Rows.spanLawsSpec.post enc Tryz.prog Tryz.f4 false true false false) := by
  refine returnsInHanded_of_change_and (C := Tryz.checked) (X := fun w _ => laidMetH Tryz.prog Rows.spanLawsRow.laid w) (fun _ _ _ hh h => h.of_heap hh) own started (by kernel_rfl) Tryz.func4
    (ChangeSpec.witness_shaped (enc := enc) (C := Tryz.checked) (os := os) (X := fun w _ => laidMetH Tryz.prog Rows.spanLawsRow.laid w) false (World.laidAll Tryz.prog os Rows.spanLawsRow.laid) #[.slice none 0 0, .slice none 0 0, .slice none 0 0] 8 (World.laidAll_os _ _ _)
      (World.shaped_of_ZipB (by kernel_rfl) (by kernel_rfl)) (by kernel_rfl) (by kernel_rfl) (by kernel_rfl)
      (by rw [MakeChecks.laidMetH_plain _ _ _ (by kernel_rfl)]; exact laidMet_laidAll _ (by kernel_rfl) (by kernel_rfl))) ?_
  intro W base args ds gs before hval0 hW hc hsz0 hL _
  have hsz : (DataW.weightsEach Tryz.prog (Tryz.f4.params.toList ++ Rows.spanLawsSpec.plain.varTypes Tryz.prog) (ds ++ gs)).all (· ≤ reachBytes) = true := hsz0
  have hval : ∀ (j : Nat) t v, Tryz.f4.params[j]? = some t → args[j]? = some v → Value.okWide Tryz.prog W .any base t v := hval0
  have hW' := hW
  obtain ⟨p, q, hA0, hV, rfl, hfz, hnd⟩ := hW
  have hA : DataW.TrodAll enc Tryz.prog W 0 (fun _ => true) true Tryz.f4.params.toList args.toList ds p := hA0
  rw [Tryz.params4] at hA hval hsz
  obtain ⟨v0, vs0, d0, ds0, p0, q0, hargs, rfl, rfl, h0, r0⟩ := trodAll_cons hA
  obtain ⟨v1, vs1, d1, ds1, p1, q1, rfl, rfl, rfl, h1, r1⟩ := trodAll_cons r0
  obtain ⟨v2, vs2, d2, ds2, p2, q2, rfl, rfl, rfl, h2, r2⟩ := trodAll_cons r1
  obtain ⟨rfl, rfl, rfl⟩ := trodAll_nil r2
  obtain rfl : args = #[v0, v1, v2] := by cases args; simp_all
  obtain ⟨rfl, rfl⟩ := trodVars_none hV
  obtain ⟨a0, len0, cap0, rfl⟩ := okWide_slice Tryz.underlying22 (hval 0 22 v0 rfl rfl)
  have k0 := h0
  have lt0 : ∀ x ∈ p0, x.block < W.heap.size := by obtain ⟨m, hm⟩ := k0; exact DataW.trod_lt m _ _ _ hm
  obtain ⟨z0, w0⟩ : ∃ zs, IsRow .i64 W a0 len0 cap0 zs := by
    obtain ⟨fuel, hf⟩ := h0
    rcases open_ints Tryz.underlying22 Tryz.underlying3 (by kernel_rfl) hf with ⟨hcs, _⟩ | ⟨x, l, c, zs, hcs, _, hl, hm, hz, _, hcell, hwz⟩
    · simp [Value.cells] at hcs
      obtain ⟨rfl, rfl, rfl⟩ := hcs
      exact ⟨[], .inl ⟨rfl, rfl, rfl, rfl⟩⟩
    · simp [Value.cells] at hcs
      obtain ⟨rfl, rfl, rfl⟩ := hcs
      exact ⟨zs, .inr ⟨_, rfl, hl, hm, by simpa using hz, hcell, hwz⟩⟩
  have wf0 : ∀ x ∈ z0.take len0, (Lit.int .i64 x).wf = true := by
    rcases w0 with ⟨_, _, _, rfl⟩ | ⟨_, _, _, _, _, _, hwf⟩
    · simp
    · exact fun x hx => hwf x (List.mem_of_mem_take hx)
  obtain ⟨a1, len1, cap1, rfl⟩ := okWide_slice Tryz.underlying22 (hval 1 22 v1 rfl rfl)
  have k1 := h1
  have lt1 : ∀ x ∈ p1, x.block < W.heap.size := by obtain ⟨m, hm⟩ := k1; exact DataW.trod_lt m _ _ _ hm
  obtain ⟨z1, w1⟩ : ∃ zs, IsRow .i64 W a1 len1 cap1 zs := by
    obtain ⟨fuel, hf⟩ := h1
    rcases open_ints Tryz.underlying22 Tryz.underlying3 (by kernel_rfl) hf with ⟨hcs, _⟩ | ⟨x, l, c, zs, hcs, _, hl, hm, hz, _, hcell, hwz⟩
    · simp [Value.cells] at hcs
      obtain ⟨rfl, rfl, rfl⟩ := hcs
      exact ⟨[], .inl ⟨rfl, rfl, rfl, rfl⟩⟩
    · simp [Value.cells] at hcs
      obtain ⟨rfl, rfl, rfl⟩ := hcs
      exact ⟨zs, .inr ⟨_, rfl, hl, hm, by simpa using hz, hcell, hwz⟩⟩
  have wf1 : ∀ x ∈ z1.take len1, (Lit.int .i64 x).wf = true := by
    rcases w1 with ⟨_, _, _, rfl⟩ | ⟨_, _, _, _, _, _, hwf⟩
    · simp
    · exact fun x hx => hwf x (List.mem_of_mem_take hx)
  obtain ⟨a2, len2, cap2, rfl⟩ := okWide_slice Tryz.underlying22 (hval 2 22 v2 rfl rfl)
  have k2 := h2
  have lt2 : ∀ x ∈ p2, x.block < W.heap.size := by obtain ⟨m, hm⟩ := k2; exact DataW.trod_lt m _ _ _ hm
  obtain ⟨z2, w2⟩ : ∃ zs, IsRow .i64 W a2 len2 cap2 zs := by
    obtain ⟨fuel, hf⟩ := h2
    rcases open_ints Tryz.underlying22 Tryz.underlying3 (by kernel_rfl) hf with ⟨hcs, _⟩ | ⟨x, l, c, zs, hcs, _, hl, hm, hz, _, hcell, hwz⟩
    · simp [Value.cells] at hcs
      obtain ⟨rfl, rfl, rfl⟩ := hcs
      exact ⟨[], .inl ⟨rfl, rfl, rfl, rfl⟩⟩
    · simp [Value.cells] at hcs
      obtain ⟨rfl, rfl, rfl⟩ := hcs
      exact ⟨zs, .inr ⟨_, rfl, hl, hm, by simpa using hz, hcell, hwz⟩⟩
  have wf2 : ∀ x ∈ z2.take len2, (Lit.int .i64 x).wf = true := by
    rcases w2 with ⟨_, _, _, rfl⟩ | ⟨_, _, _, _, _, _, hwf⟩
    · simp
    · exact fun x hx => hwf x (List.mem_of_mem_take hx)
  clear hA0 hval0 hsz0 hsz
  have hst : ∀ y, (RowS a0 z0.length y ∨ RowS a1 z1.length y ∨ RowS a2 z2.length y) → y.spot = none ∧ ∃ v, W.cell? y = some v := by
    intro y hy
    rcases hy with hy | hy | hy
    · exact isRow_st w0 hy
    · exact isRow_st w1 hy
    · exact isRow_st w2 hy
  have hL1 : laidMet Tryz.prog Rows.spanLawsRow.laid W := by rw [← MakeChecks.laidMetH_plain _ _ _ (by kernel_rfl)]; exact hL
  have hG := ground_of_laid hL1 (List.mem_cons_of_mem _ (List.mem_cons_of_mem _ List.mem_cons_self)) (by kernel_rfl) (g := 1) (t := 193) (n := 20) (e := 153) (by kernel_rfl) (by kernel_rfl) Tryz.underlying193 Tryz.underlying153 (by kernel_rfl) (by kernel_rfl)
  refine (law_calls (Go.Vx.Z.ok4) rfl (enters_of Tryz.func4 (by kernel_rfl) rfl) hG.1 hG.2 (S := fun y => RowS a0 z0.length y ∨ RowS a1 z1.length y ∨ RowS a2 z2.length y) hst ((z0.take len0), (z1.take len1), (z2.take len2), ()) (Go.Vx.Z.pure_SpanLaws (z0.take len0) (z1.take len1) (z2.take len2) wf0 wf1 wf2) rfl (fun i => ?_)).mono fun e W' ⟨he, bel⟩ => ?_
  · match i with
    | 0 => exact isRow_rep w0 (fun y hy => .inl hy)
    | 1 => exact isRow_rep w1 (fun y hy => .inr (.inl hy))
    | 2 => exact isRow_rep w2 (fun y hy => .inr (.inr (hy)))
    | i + 3 => trivial
  subst he
  exact ⟨_, rfl, _, _, _, [], _, [], hW', trodAll_mk1 (shut_bool Tryz.underlying4 _), (trodAll_cons_mk (Below.trod laidOut (by kernel_rfl) (of_decide_eq_true (by kernel_rfl)) k0 bel lt0) (trodAll_cons_mk (Below.trod laidOut (by kernel_rfl) (of_decide_eq_true (by kernel_rfl)) k1 bel lt1) (trodAll_cons_mk (Below.trod laidOut (by kernel_rfl) (of_decide_eq_true (by kernel_rfl)) k2 bel lt2) trodAll_mk0))), rfl, bel.frame _, fun h => by cases h⟩
theorem holds : Rows.SpanLawsSaid :=
  OpenClaim.holds_of_wide 4 Tryz.f4 rfl rfl rfl rfl rfl rfl rfl ⟨rfl, rfl, rfl, rfl, rfl⟩ rfl rfl rfl rfl rfl (by kernel_rfl) Tryz.func4 (by kernel_rfl)
    (of_decide_eq_true (by kernel_rfl)) (by unfold Func.isWrapper; first | (rw [if_pos (by decide +kernel)]; kernel_rfl) | (rw [if_neg (by decide +kernel)]; exact ⟨rfl, rfl⟩))
    (fun os started H enc _ => lifted os started H enc)
theorem card_holds : Rows.SpanLawsCardSaid :=
  Claim7.holds_tied_plain_at .later [] [.data, .data, .data, .data, .pinned] true (true, "677dda388697c3be81f00c8f3e7162a91e326615aec89fc25f0adc6f7f408f5b") false holds (fun _ h => by cases h) (by kernel_rfl) (fun _ h => by cases h) spanLaws_row_tie rfl ⟨rfl, rfl⟩ (by kernel_rfl) rfl
    (fun f fn hf hfn => by
      obtain rfl : f = 4 := Option.some.inj ((show Tryz.prog.funcNamed "transhumance/transhumancelaw3.SpanLaws" = some 4 by kernel_rfl).symm.trans hf) |>.symm
      obtain rfl : fn = Tryz.f4 := (Option.some.inj (Tryz.func4.symm.trans hfn)).symm
      exact ⟨by kernel_rfl, fun j t ht => by
        rw [Tryz.params4] at ht
        have hm : t ∈ [22, 22, 22] := by simpa using Array.mem_of_getElem? ht
        have hall : ([22, 22, 22].all fun u => !Tryz.prog.wantsStandIn u) = true := by kernel_rfl
        exact (show Tryz.prog.wantsStandIn t = false by simpa using List.all_eq_true.1 hall t hm)⟩)
    (by kernel_rfl)
end spanLaws
end Go.Proofs.YtildhhdbikpbaaaGreatDoor
