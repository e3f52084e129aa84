/- more blanks, around, between, change nothing; parts in another order neither -/
import Derived.Test.YtildhhdbikpbaaaGreatDoorV5
import Derived.Test.YtildhhdbikpbaaaGreatDoorV2
import Derived.Test.YtildhhdbikpbaaaGreatDoorRows
import Derived.Test.YtildhhdbikpbaaaGreatDoorTie
import Derived.Test.YtildhhdbikpbaaaGreatDoorCards
import Derived.Test.YtildhhdbikpbaaaGreatDoorV4
import Derived.WalkKit
import Derived.ProofKit
import Derived.OpenShut
import Derived.ShutString
import Derived.ChangeOld
import Derived.Below
import Derived.SizedLaws
import Derived.LaidMore
import Derived.Lay
import Derived.SevenTiedAt
import Derived.Stop.Joined
import Derived.KernelRfl
set_option linter.unusedSimpArgs false
/-! SpanBlanks -/
namespace Go.Vx.Z
open Go Go.Vx
set_option linter.unusedVariables false
set_option maxRecDepth 100000
theorem text_whole {n : Nat} {l : List UInt8} (hn : n ≤ 6) (h : TextT n l) : ∃ S, Whole l S := by
  obtain ⟨⟨O, A, hS⟩, _⟩ := h
  exact ⟨_, whole_of (by omega) hS⟩
theorem okO_nil : OkO 0 [] := ⟨nrm_nil.1, nrm_nil.2, by simp⟩
theorem whole_one {l : List UInt8} {S : Pt → Prop} (h : Whole l S) : ∃ R, goP (lex l) [] allS .start = .inl R ∧ OkO 2000 R ∧ ∀ y, den R y ↔ S y := by
  obtain ⟨R, h1, h2, h3⟩ := h.1 0 0 [] (by omega) okO_nil
  rw [List.replicate_zero, List.append_nil] at h1
  refine ⟨R, h1, ⟨h2.1, h2.2.1, by have := h2.2.2; omega⟩, fun y => ?_⟩
  rw [h3]
  exact ⟨fun h => h.elim (fun h => absurd h (den_nil y)) id, .inr⟩
theorem whole_two {l m : List UInt8} {S T : Pt → Prop} (h : Whole l S) (k : Whole m T) (a b c d : Nat) : ∃ R, goP (lex (List.replicate a 32 ++ (l ++ List.replicate b 32 ++ [124, 124] ++ (List.replicate c 32 ++ (m ++ List.replicate d 32))))) [] allS .start = .inl R ∧ OkO 4000 R ∧ ∀ y, den R y ↔ S y ∨ T y := by
  obtain ⟨o, h1, h2, h3⟩ := h.2 b (List.replicate c 32 ++ (m ++ List.replicate d 32)) 0 [] (by omega) okO_nil
  obtain ⟨R, k1, k2, k3⟩ := k.1 d (0 + 2000) o (by omega) h2
  refine ⟨R, by rw [lex_blanks, h1, lex_blanks, k1], ⟨k2.1, k2.2.1, by have := k2.2.2; omega⟩, fun y => ?_⟩
  rw [k3, h3]
  exact ⟨fun h => h.elim (fun h => h.elim (fun h => absurd h (den_nil y)) .inl) .inr, fun h => h.elim (fun h => .inl (.inr h)) .inr⟩
theorem low_rep (k : Nat) : low (List.replicate k 32) = true := low_all.2 fun c hc => by rw [(List.mem_replicate.1 hc).2]; rfl
theorem parse_lit {l : List UInt8} {R : List Span} (hs : l.length ≤ 400000) (hl : low l = true) (h : goP (lex l) [] allS .start = .inl R) : F30 (lit l, ()) = some (R, 0, 0, ()) := parse_of (s := lit l) hs hl h
theorem pure_SpanBlanks (x0 x1 : List Int) (x2 : Int) (h0 : ∀ x ∈ x0, (Lit.int .i64 x).wf = true) (h1 : ∀ x ∈ x1, (Lit.int .i64 x).wf = true) (h2 : (Lit.int .i64 x2).wf = true) : F12 (x0, x1, x2, ()) = some (true, ()) := by
  obtain ⟨s, n, fs, hn, hs⟩ := F28_is x0
  obtain ⟨t, m, ft, hm, ht⟩ := F28_is x1
  obtain ⟨g, hg, fg⟩ := F29_is x2 6 (by omega) (by omega)
  obtain ⟨S, wS⟩ := text_whole hn hs
  obtain ⟨T, wT⟩ := text_whole hm ht
  have ls : s.length ≤ 840 := Nat.le_trans hs.2.1 (by omega)
  have lt : t.length ≤ 840 := Nat.le_trans ht.2.1 (by omega)
  have ws := hs.2.2.1
  have wt := ht.2.2.1
  have fg' : F29 (x2, Int.ofNat 6, ()) = some ((g : Int), ()) := fg
  have hgb : (decide (Int.ofNat 0 ≤ (g : Int)) && decide ((g : Int) ≤ Int.ofNat 6)) = true := by
    rw [ge_zero, Bool.true_and, decide_eq_true_eq]
    show (g : Int) ≤ 6; omega
  have hex : ByteArray.extract (lit [32, 32, 32, 32, 32, 32]) 0 (Int.toNat (g : Int)) = lit (List.replicate g 32) := by
    rw [Int.toNat_natCast]
    match g, hg with
    | 0, _ => rfl
    | 1, _ => rfl
    | 2, _ => rfl
    | 3, _ => rfl
    | 4, _ => rfl
    | 5, _ => rfl
  obtain ⟨X, x1', x2', x3'⟩ := whole_two wS wT 0 0 0 0
  obtain ⟨Y, y1, y2, y3⟩ := whole_two wT wS g g g g
  obtain ⟨Z, z1, z2, z3⟩ := whole_one wS
  obtain ⟨U, u1, u2, u3⟩ := whole_one wT
  have eX : List.replicate 0 32 ++ (s ++ List.replicate 0 32 ++ [124, 124] ++ (List.replicate 0 32 ++ (t ++ List.replicate 0 32))) = s ++ [124, 124] ++ t := by simp
  have eY : List.replicate g 32 ++ (t ++ List.replicate g 32 ++ [124, 124] ++ (List.replicate g 32 ++ (s ++ List.replicate g 32))) = List.replicate g 32 ++ t ++ List.replicate g 32 ++ [124, 124] ++ List.replicate g 32 ++ s ++ List.replicate g 32 := by simp
  rw [eX] at x1'
  rw [eY] at y1
  have lb := low_rep g
  have two : low [124, 124] = true := rfl
  have lenB : (List.replicate g (32 : UInt8)).length ≤ 5 := by rw [List.length_replicate]; omega
  generalize hB : List.replicate g (32 : UInt8) = b at *
  have len2 : ([124, 124] : List UInt8).length = 2 := rfl
  have pX := parse_lit (l := s ++ [124, 124] ++ t) (by simp only [List.length_append]; omega) (low_app (low_app ws two) wt) x1'
  have pY := parse_lit (l := b ++ t ++ b ++ [124, 124] ++ b ++ s ++ b) (by simp only [List.length_append]; omega) (low_app (low_app (low_app (low_app (low_app (low_app lb wt) lb) two) lb) ws) lb) y1
  have pZ := parse_lit (by omega) ws z1
  have pU := parse_lit (by omega) wt u1
  have eXY : X = Y := nrm_uniq x2'.1 y2.1 fun p => by rw [x3', y3]; exact or_comm
  obtain ⟨o1, o2, _, o4, o5⟩ := orS_says z2.1 u2.1 z2.2.1 u2.2.1 (by have := z2.2.2; have := u2.2.2; omega)
  have eXO : X = orS Z U := nrm_uniq x2'.1 o2 fun p => by rw [x3', o4, z3, u3]
  have xl := x2'.2.2
  have s1 := same_is (a := X) (b := Y) (by omega) eXY
  have s2 := same_is (a := X) (b := orS Z U) (by omega) eXO
  rw [F12_eq, fs, obs, ft, obs, fg', obs]
  simp only
  rw [hgb, cT, hex]
  rw [fitsL (by omega), cT, lit_app, fitsL (by simp only [List.length_append]; omega), cT, lit_app, pX, obs]
  rw [fitsL (by omega), cT, lit_app, fitsL (by simp only [List.length_append]; omega), cT, lit_app, fitsL (by simp only [List.length_append]; omega), cT, lit_app, fitsL (by simp only [List.length_append]; omega), cT, lit_app, fitsL (by simp only [List.length_append]; omega), cT, lit_app, fitsL (by simp only [List.length_append]; omega), cT, lit_app, pY, obs, pZ, obs, pU, obs]
  simp only
  have z0 : ((0 : Int) == Int.ofNat 0) = true := rfl
  rw [z0, cT, cT, cT, cT, s1, obs, cT, o1, obs, s2, obs]
end Go.Vx.Z
namespace Go.Proofs.YtildhhdbikpbaaaGreatDoor
open Go Go.Vx Go.ChangeShapes Go.WideShapes Go.ChangeAt Go.RowKit
open Go.ChangeMaps (open_string shut_string)
set_option linter.unusedVariables false
namespace spanBlanks
theorem own : ownKnob Tryz.prog.godebug = none := by kernel_rfl
theorem laidOut : laidOutB Tryz.prog = true := by kernel_rfl
set_option maxRecDepth 100000 in
theorem lifted (os : Os) (started : os.Started) (H : Type) (enc : TypeId × Value → H) :
    ReturnsInHanded {} Tryz.checked os 12 .any (fun w args => (Rows.spanBlanksSpec.pre enc Tryz.prog Tryz.f12 Rows.spanBlanksRow.domain false w args ∧ laidMetH Tryz.prog Rows.spanBlanksRow.laid w) ∧ sizedMet enc Tryz.prog Tryz.f12 (OpenSpec.ofChange Rows.spanBlanksSpec) false w args)
      (Rows.spanBlanksSpec.post enc Tryz.prog Tryz.f12 false true false false) := by
  refine returnsInHanded_of_change_and (C := Tryz.checked) (X := fun w _ => laidMetH Tryz.prog Rows.spanBlanksRow.laid w) (fun _ _ _ hh h => h.of_heap hh) own started (by kernel_rfl) Tryz.func12
    (ChangeSpec.witness_shaped (enc := enc) (C := Tryz.checked) (os := os) (X := fun w _ => laidMetH Tryz.prog Rows.spanBlanksRow.laid w) false (World.laidAll Tryz.prog os Rows.spanBlanksRow.laid) #[.slice none 0 0, .slice none 0 0, .int .i64 0] 8 (World.laidAll_os _ _ _)
      (World.shaped_of_ZipB (by kernel_rfl) (by kernel_rfl)) (by kernel_rfl) (by kernel_rfl) (by kernel_rfl)
      (by rw [MakeChecks.laidMetH_plain _ _ _ (by kernel_rfl)]; exact laidMet_laidAll _ (by kernel_rfl) (by kernel_rfl))) ?_
  intro W base args ds gs before hval0 hW hc hsz0 hL _
  have hsz : (DataW.weightsEach Tryz.prog (Tryz.f12.params.toList ++ Rows.spanBlanksSpec.plain.varTypes Tryz.prog) (ds ++ gs)).all (· ≤ reachBytes) = true := hsz0
  have hval : ∀ (j : Nat) t v, Tryz.f12.params[j]? = some t → args[j]? = some v → Value.okWide Tryz.prog W .any base t v := hval0
  have hW' := hW
  obtain ⟨p, q, hA0, hV, rfl, hfz, hnd⟩ := hW
  have hA : DataW.TrodAll enc Tryz.prog W 0 (fun _ => true) true Tryz.f12.params.toList args.toList ds p := hA0
  rw [Tryz.params12] at hA hval hsz
  obtain ⟨v0, vs0, d0, ds0, p0, q0, hargs, rfl, rfl, h0, r0⟩ := trodAll_cons hA
  obtain ⟨v1, vs1, d1, ds1, p1, q1, rfl, rfl, rfl, h1, r1⟩ := trodAll_cons r0
  obtain ⟨v2, vs2, d2, ds2, p2, q2, rfl, rfl, rfl, h2, r2⟩ := trodAll_cons r1
  obtain ⟨rfl, rfl, rfl⟩ := trodAll_nil r2
  obtain rfl : args = #[v0, v1, v2] := by cases args; simp_all
  obtain ⟨rfl, rfl⟩ := trodVars_none hV
  obtain ⟨a0, len0, cap0, rfl⟩ := okWide_slice Tryz.underlying22 (hval 0 22 v0 rfl rfl)
  have k0 := h0
  have lt0 : ∀ x ∈ p0, x.block < W.heap.size := by obtain ⟨m, hm⟩ := k0; exact DataW.trod_lt m _ _ _ hm
  obtain ⟨z0, w0⟩ : ∃ zs, IsRow .i64 W a0 len0 cap0 zs := by
    obtain ⟨fuel, hf⟩ := h0
    rcases open_ints Tryz.underlying22 Tryz.underlying3 (by kernel_rfl) hf with ⟨hcs, _⟩ | ⟨x, l, c, zs, hcs, _, hl, hm, hz, _, hcell, hwz⟩
    · simp [Value.cells] at hcs
      obtain ⟨rfl, rfl, rfl⟩ := hcs
      exact ⟨[], .inl ⟨rfl, rfl, rfl, rfl⟩⟩
    · simp [Value.cells] at hcs
      obtain ⟨rfl, rfl, rfl⟩ := hcs
      exact ⟨zs, .inr ⟨_, rfl, hl, hm, by simpa using hz, hcell, hwz⟩⟩
  have wf0 : ∀ x ∈ z0.take len0, (Lit.int .i64 x).wf = true := by
    rcases w0 with ⟨_, _, _, rfl⟩ | ⟨_, _, _, _, _, _, hwf⟩
    · simp
    · exact fun x hx => hwf x (List.mem_of_mem_take hx)
  obtain ⟨a1, len1, cap1, rfl⟩ := okWide_slice Tryz.underlying22 (hval 1 22 v1 rfl rfl)
  have k1 := h1
  have lt1 : ∀ x ∈ p1, x.block < W.heap.size := by obtain ⟨m, hm⟩ := k1; exact DataW.trod_lt m _ _ _ hm
  obtain ⟨z1, w1⟩ : ∃ zs, IsRow .i64 W a1 len1 cap1 zs := by
    obtain ⟨fuel, hf⟩ := h1
    rcases open_ints Tryz.underlying22 Tryz.underlying3 (by kernel_rfl) hf with ⟨hcs, _⟩ | ⟨x, l, c, zs, hcs, _, hl, hm, hz, _, hcell, hwz⟩
    · simp [Value.cells] at hcs
      obtain ⟨rfl, rfl, rfl⟩ := hcs
      exact ⟨[], .inl ⟨rfl, rfl, rfl, rfl⟩⟩
    · simp [Value.cells] at hcs
      obtain ⟨rfl, rfl, rfl⟩ := hcs
      exact ⟨zs, .inr ⟨_, rfl, hl, hm, by simpa using hz, hcell, hwz⟩⟩
  have wf1 : ∀ x ∈ z1.take len1, (Lit.int .i64 x).wf = true := by
    rcases w1 with ⟨_, _, _, rfl⟩ | ⟨_, _, _, _, _, _, hwf⟩
    · simp
    · exact fun x hx => hwf x (List.mem_of_mem_take hx)
  obtain ⟨a2, rfl, rfl, rfl, w2⟩ := open_int Tryz.underlying3 (hval 2 3 v2 rfl rfl) h2
  clear hA0 hval0 hsz0 hsz
  have hst : ∀ y, (RowS a0 z0.length y ∨ RowS a1 z1.length y) → y.spot = none ∧ ∃ v, W.cell? y = some v := by
    intro y hy
    rcases hy with hy | hy
    · exact isRow_st w0 hy
    · exact isRow_st w1 hy
  have hL1 : laidMet Tryz.prog Rows.spanBlanksRow.laid W := by rw [← MakeChecks.laidMetH_plain _ _ _ (by kernel_rfl)]; exact hL
  have hG := ground_of_laid hL1 (List.mem_cons_of_mem _ (List.mem_cons_of_mem _ List.mem_cons_self)) (by kernel_rfl) (g := 1) (t := 193) (n := 20) (e := 153) (by kernel_rfl) (by kernel_rfl) Tryz.underlying193 Tryz.underlying153 (by kernel_rfl) (by kernel_rfl)
  refine (law_calls (Go.Vx.Z.ok12) rfl (enters_of Tryz.func12 (by kernel_rfl) rfl) hG.1 hG.2 (S := fun y => RowS a0 z0.length y ∨ RowS a1 z1.length y) hst ((z0.take len0), (z1.take len1), a2, ()) (Go.Vx.Z.pure_SpanBlanks (z0.take len0) (z1.take len1) a2 wf0 wf1 w2) rfl (fun i => ?_)).mono fun e W' ⟨he, bel⟩ => ?_
  · match i with
    | 0 => exact isRow_rep w0 (fun y hy => .inl hy)
    | 1 => exact isRow_rep w1 (fun y hy => .inr (hy))
    | 2 => exact rfl
    | i + 3 => trivial
  subst he
  exact ⟨_, rfl, _, _, _, [], _, [], hW', trodAll_mk1 (shut_bool Tryz.underlying4 _), (trodAll_cons_mk (Below.trod laidOut (by kernel_rfl) (of_decide_eq_true (by kernel_rfl)) k0 bel lt0) (trodAll_cons_mk (Below.trod laidOut (by kernel_rfl) (of_decide_eq_true (by kernel_rfl)) k1 bel lt1) (trodAll_cons_mk (shut_int Tryz.underlying3 w2) trodAll_mk0))), rfl, bel.frame _, fun h => by cases h⟩
theorem holds : Rows.SpanBlanksSaid :=
  OpenClaim.holds_of_wide 12 Tryz.f12 rfl rfl rfl rfl rfl rfl rfl ⟨rfl, rfl, rfl, rfl, rfl⟩ rfl rfl rfl rfl rfl (by kernel_rfl) Tryz.func12 (by kernel_rfl)
    (of_decide_eq_true (by kernel_rfl)) (by unfold Func.isWrapper; first | (rw [if_pos (by decide +kernel)]; kernel_rfl) | (rw [if_neg (by decide +kernel)]; exact ⟨rfl, rfl⟩))
    (fun os started H enc _ => lifted os started H enc)
theorem card_holds : Rows.SpanBlanksCardSaid :=
  Claim7.holds_tied_plain_at .later [] [.data, .data, .data, .data, .pinned] true (true, "677dda388697c3be81f00c8f3e7162a91e326615aec89fc25f0adc6f7f408f5b") false holds (fun _ h => by cases h) (by kernel_rfl) (fun _ h => by cases h) spanBlanks_row_tie rfl ⟨rfl, rfl⟩ (by kernel_rfl) rfl
    (fun f fn hf hfn => by
      obtain rfl : f = 12 := Option.some.inj ((show Tryz.prog.funcNamed "transhumance/transhumancelaw3.SpanBlanks" = some 12 by kernel_rfl).symm.trans hf) |>.symm
      obtain rfl : fn = Tryz.f12 := (Option.some.inj (Tryz.func12.symm.trans hfn)).symm
      exact ⟨by kernel_rfl, fun j t ht => by
        rw [Tryz.params12] at ht
        have hm : t ∈ [22, 22, 3] := by simpa using Array.mem_of_getElem? ht
        have hall : ([22, 22, 3].all fun u => !Tryz.prog.wantsStandIn u) = true := by kernel_rfl
        exact (show Tryz.prog.wantsStandIn t = false by simpa using List.all_eq_true.1 hall t hm)⟩)
    (by kernel_rfl)
end spanBlanks
end Go.Proofs.YtildhhdbikpbaaaGreatDoor
