/- words say what they should at each version: at an operator's version, ahead of it, behind it -/
import Derived.Test.YtildhhdbikpbaaaGreatDoorV5
import Derived.Test.YtildhhdbikpbaaaGreatDoorV2
import Derived.Test.YtildhhdbikpbaaaGreatDoorRows
import Derived.Test.YtildhhdbikpbaaaGreatDoorTie
import Derived.Test.YtildhhdbikpbaaaGreatDoorCards
import Derived.Test.YtildhhdbikpbaaaGreatDoorV4
import Derived.WalkKit
import Derived.ProofKit
import Derived.OpenShut
import Derived.ShutString
import Derived.ChangeOld
import Derived.Below
import Derived.SizedLaws
import Derived.LaidMore
import Derived.Lay
import Derived.SevenTiedAt
import Derived.Stop.Joined
import Derived.KernelRfl
set_option linter.unusedSimpArgs false
/-! SpanMeans -/
namespace Go.Vx.Z
open Go Go.Vx
set_option linter.unusedVariables false
set_option maxRecDepth 100000
def lowB (c : UInt8) : Bool := decide (c.toNat < 128)
theorem low_all {l : List UInt8} : low l = true ↔ ∀ c ∈ l, lowB c = true := by
  show l.all lowB = true ↔ _
  rw [List.all_eq_true]
theorem low_app {a b : List UInt8} (ha : low a = true) (hb : low b = true) : low (a ++ b) = true := by
  rw [low_all] at *
  intro c hc
  rcases List.mem_append.1 hc with h | h
  · exact ha c h
  · exact hb c h
theorem low_dec (u : Nat) : low (Lib.decDigits u) = true := low_all.2 fun c hc => by
  have := dig_lt (dec_all u c hc)
  exact decide_eq_true (by omega)
theorem low_jn : ∀ (ws : List (List UInt8)), (∀ w ∈ ws, w ∈ preW) → low (jn ws) = true
  | [], _ => rfl
  | [w], h => by
    have key : ∀ w ∈ preW, low w = true := by decide
    exact key w (h w (by simp))
  | w :: v :: l, h => by
    have key : ∀ w ∈ preW, low w = true := by decide
    rw [jn]
    exact low_app (key w (h w (by simp))) (low_app (a := [46]) (by decide) (low_jn (v :: l) fun u hu => h u (by simp [hu])))
theorem low_verT {v : Ver} (h : okMk v) : low (verT v) = true := by
  obtain ⟨_, _, _, _, n, _, ws, _, h2, h3⟩ := h
  unfold verT
  refine low_app (a := [118]) (by decide) (low_app (low_dec _) (low_app (a := [46]) (by decide) (low_app (low_dec _) (low_app (a := [46]) (by decide) (low_app (low_dec _) ?_)))))
  split
  · rfl
  · rw [h3]
    exact low_app (a := [45]) (by decide) (low_jn ws h2)
theorem parse_of {s : ByteArray} {R : List Span} (hs : s.size ≤ 400000) (hl : low (bs s) = true) (h : goP (lex (bs s)) [] allS .start = .inl R) : F30 (s, ()) = some (R, 0, 0, ()) := by
  have := (F30_is s hs (any_low s (by omega) hl)).2
  rw [h] at this
  exact this
theorem ops_tok : ∀ op ∈ opsL.map bs, (∀ c ∈ op, tokc c = true) ∧ low op = true ∧ op.length ≤ 2 := by decide
theorem parse_op {op : List UInt8} {v : Ver} {L : List Span} (hv : okMk v) (ho : opS op v = some L) : F30 (lit op ++ lit (verT v), ()) = some (L, 0, 0, ()) := by
  obtain ⟨t1, t2, t3⟩ := ops_tok op (opS_mem ho)
  have hb : bs (lit op ++ lit (verT v)) = op ++ verT v := by rw [bs_append, bs_lit, bs_lit]
  have hlen := verT_len (okMk_N hv)
  refine parse_of ?_ ?_ ?_
  · rw [bs_size, hb, List.length_append]; omega
  · rw [hb]; exact low_app t2 (low_verT hv)
  · rw [hb]
    refine go_one (by unfold verT; simp) (fun c hc => ?_) (item_op hv ho)
    rcases List.mem_append.1 hc with h | h
    · exact t1 c h
    · exact verT_c hv c h
theorem parse_two {v w : Ver} (hv : okMk v) (hw : okMk w) : F30 (lit (verT v) ++ (lit [32, 45, 32]) ++ lit (verT w), ()) = some (btw (ptV v) (ptOf w true false), 0, 0, ()) := by
  have hb : bs (lit (verT v) ++ (lit [32, 45, 32]) ++ lit (verT w)) = verT v ++ [32, 45, 32] ++ verT w := by rw [bs_append, bs_append, bs_lit, bs_lit, bs_lit]
  have hlen := verT_len (okMk_N hv)
  have hlen2 := verT_len (okMk_N hw)
  refine parse_of ?_ ?_ ?_
  · rw [bs_size, hb, List.length_append, List.length_append]
    have : ([32, 45, 32] : List UInt8).length = 3 := rfl
    omega
  · rw [hb]; exact low_app (low_app (low_verT hv) (by decide)) (low_verT hw)
  · rw [hb]; exact go_two hv hw
theorem den_btw {p q x : Pt} (h : Pair p q) : den (btw p q) x ↔ p ≤ x ∧ x < q := (btw_says h).2.1 x
theorem means_k (v w : Ver) (hv : okMk v) (hw : okMk w) (k : Nat) (hk : k < 7) : ∃ (op : List UInt8) (L : List Span) (b : Bool), [(lit []), (lit [61]), (lit [33, 61]), (lit [62]), (lit [62, 61]), (lit [60]), (lit [60, 61])][k]? = some (lit op) ∧
    [cmpV w v == Int.ofNat 0, cmpV w v == Int.ofNat 0, !cmpV w v == Int.ofNat 0, decide (cmpV w v > Int.ofNat 0), decide (cmpV w v ≥ Int.ofNat 0), decide (cmpV w v < Int.ofNat 0), decide (cmpV w v ≤ Int.ofNat 0)][k]? = some b ∧ opS op v = some L ∧ (den L (ptV w) ↔ b = true) := by
  have hV := okMk_V hv
  have hW := okMk_V hw
  have hN := okMk_N hv
  have hM := okMk_N hw
  have hbV : ∀ b, pBeg ≤ ptOf v b false := fun b => pBeg_le b (least_le hN.1.1 hN.2.1.1 hN.2.2.1.1)
  have hbW : pBeg ≤ ptV w := pBeg_le false (least_le hM.1.1 hM.2.1.1 hM.2.2.1.1)
  have hl : okV least = true := by decide
  have eW := lt_end w false
  have h1 := den_btw (x := ptV w) (pair_ver (p := v) (q := v) false true hV hV)
  have h1' : den (btw (ptV v) (ptOf v true false)) (ptV w) ↔ cmpV w v = 0 := by
    have h1 : den (btw (ptV v) (ptOf v true false)) (ptV w) ↔ ptV v ≤ ptV w ∧ ptV w < ptOf v true false := h1
    rw [h1, le_cmp, lt_cmp1]
    omega
  match k, hk with
  | 0, _ => exact ⟨[], _, _, rfl, rfl, rfl, by rw [beq_iff_eq]; exact h1'⟩
  | 1, _ => exact ⟨[61], _, _, rfl, rfl, rfl, by rw [beq_iff_eq]; exact h1'⟩
  | 2, _ =>
    refine ⟨[33, 61], _, _, rfl, rfl, rfl, ?_⟩
    have h2 := (not_btw (pair_ver (p := v) (q := v) false true hV hV) (hbV false)).2.2.1 (ptV w)
    have h2 : den (notS (btw (ptV v) (ptOf v true false))) (ptV w) ↔ pBeg ≤ ptV w ∧ ptV w < pEnd ∧ ¬ den (btw (ptV v) (ptOf v true false)) (ptV w) := h2
    rw [h2, h1', Bool.not_eq_true', ← Bool.not_eq_true, beq_iff_eq]
    exact ⟨fun h => h.2.2, fun h => ⟨hbW, eW, h⟩⟩
  | 3, _ =>
    refine ⟨[62], _, _, rfl, rfl, rfl, ?_⟩
    rw [den_btw (pair_end true hV), le_cmp1, decide_eq_true_eq]
    exact ⟨fun h => h.1, fun h => ⟨h, eW⟩⟩
  | 4, _ =>
    refine ⟨[62, 61], _, _, rfl, rfl, rfl, ?_⟩
    have h3 : den (btw (ptV v) pEnd) (ptV w) ↔ ptV v ≤ ptV w ∧ ptV w < pEnd := den_btw (pair_end false hV)
    rw [h3, le_cmp, decide_eq_true_eq]
    exact ⟨fun h => h.1, fun h => ⟨h, eW⟩⟩
  | 5, _ =>
    refine ⟨[60], _, _, rfl, rfl, rfl, ?_⟩
    have h3 : den (btw pBeg (ptV v)) (ptV w) ↔ pBeg ≤ ptV w ∧ ptV w < ptV v := den_btw (pair_ver false false hl hV)
    rw [h3, lt_cmp, decide_eq_true_eq]
    exact ⟨fun h => h.2, fun h => ⟨hbW, h⟩⟩
  | 6, _ =>
    refine ⟨[60, 61], _, _, rfl, rfl, rfl, ?_⟩
    have h3 : den (btw pBeg (ptOf v true false)) (ptV w) ↔ pBeg ≤ ptV w ∧ ptV w < ptOf v true false := den_btw (pair_ver false true hl hV)
    rw [h3, lt_cmp1, decide_eq_true_eq]
    exact ⟨fun h => h.2, fun h => ⟨hbW, h⟩⟩
theorem pure_SpanMeans (x0 x1 x2 x3 x4 : Int) (h0 : (Lit.int .i64 x0).wf = true) (h1 : (Lit.int .i64 x1).wf = true) (h2 : (Lit.int .i64 x2).wf = true) (h3 : (Lit.int .i64 x3).wf = true) (h4 : (Lit.int .i64 x4).wf = true) : F6 (x0, x1, x2, x3, x4, ()) = some (true, ()) := by
  obtain ⟨v, fv, hv⟩ := F32_is x0 x1
  obtain ⟨w, fw, hw⟩ := F32_is x2 x3
  obtain ⟨k, hk, fk⟩ := F29_is x4 7 (by omega) (by omega)
  have hV := okMk_V hv
  have hW := okMk_V hw
  have hN := okMk_N hv
  have hM := okMk_N hw
  obtain ⟨op, L, b, k1, k2, k3, k4⟩ := means_k v w hv hw k hk
  have hbV : ∀ b, pBeg ≤ ptOf v b false := fun b => pBeg_le b (least_le hN.1.1 hN.2.1.1 hN.2.2.1.1)
  have hlen := verT_len hN
  have hlen2 := verT_len hM
  have o2 := (ops_tok op (opS_mem k3)).2.2
  obtain ⟨n1, n2, n3⟩ := opS_ok hV hbV k3
  have sz : ∀ l : List UInt8, (lit l).size = l.length := fun l => rfl
  have pC : opS [94] v = some (btw (ptV v) (bumpPt (bumpV (caretK v.1 v.2.1) v.1 v.2.1 v.2.2.1))) := rfl
  have pT : opS [126] v = some (btw (ptV v) (bumpPt (bumpV 1 v.1 v.2.1 v.2.2.1))) := rfl
  obtain ⟨c1, c2, c3⟩ := opS_ok hV hbV pC
  obtain ⟨t1, t2, t3⟩ := opS_ok hV hbV pT
  have q1 := parse_op hv k3
  have q2 := parse_two hv hw
  have q3 := parse_op hv pC
  have q4 := parse_op hv pT
  have dC : ∀ x, den (btw (ptV v) (bumpPt (bumpV (caretK v.1 v.2.1) v.1 v.2.1 v.2.2.1))) x ↔ ptV v ≤ x ∧ x < bumpPt (bumpV (caretK v.1 v.2.1) v.1 v.2.1 v.2.2.1) := fun x => den_btw (pair_bump hV _)
  have dT : ∀ x, den (btw (ptV v) (bumpPt (bumpV 1 v.1 v.2.1 v.2.2.1))) x ↔ ptV v ≤ x ∧ x < bumpPt (bumpV 1 v.1 v.2.1 v.2.2.1) := fun x => den_btw (pair_bump hV _)
  have dB : den (btw (ptV v) (ptOf w true false)) (ptV w) ↔ ptV v ≤ ptV w ∧ ptV w < ptOf w true false := den_btw (pair_ver false true hV hW)
  have self : ∀ x : Ver, cmpV x x = 0 := lin_cmpV.self
  have okx : okV (v.1, w.2.1, w.2.2.1, w.2.2.2.1, ()) = true := hW
  have oky : okV (v.1, v.2.1, w.2.2.1, w.2.2.2.1, ()) = true := hW
  have hasL := has_is n1 hW (by omega) b k4
  have hasB : F24 (btw (ptV v) (ptOf w true false), w.1, w.2.1, w.2.2.1, w.2.2.2.1, ()) = some (decide (cmpV w v ≥ Int.ofNat 0), ()) := has_is (btw_says (pair_ver (p := v) (q := w) false true hV hW)).1 hW (Nat.le_trans (btw_says (pair_ver (p := v) (q := w) false true hV hW)).2.2 (by omega)) (decide (cmpV w v ≥ Int.ofNat 0)) (by
    have e : den (btw (ptOf v false false) (ptOf w true false)) (ptV w) ↔ ptV v ≤ ptV w ∧ ptV w < ptOf w true false := dB
    rw [e, le_cmp, lt_cmp1, self, decide_eq_true_eq]
    exact ⟨fun h => h.1, fun h => ⟨h, Int.le_refl _⟩⟩)
  have hasCv := has_is c1 hV (by omega) true (by
    rw [dC, le_cmp, self]
    exact ⟨fun _ => rfl, fun _ => ⟨Int.le_refl _, bump_gt _ v v.1 v.2.1 v.2.2.1 rfl (fun _ => rfl) (fun _ => rfl)⟩⟩)
  have hasTv := has_is t1 hV (by omega) true (by
    rw [dT, le_cmp, self]
    exact ⟨fun _ => rfl, fun _ => ⟨Int.le_refl _, bump_gt _ v v.1 v.2.1 v.2.2.1 rfl (fun _ => rfl) (fun _ => rfl)⟩⟩)
  have hasTy := has_is t1 oky (by omega) (decide (cmpV (v.1, v.2.1, w.2.2.1, w.2.2.2.1, ()) v ≥ Int.ofNat 0)) (by
    rw [dT, le_cmp, decide_eq_true_eq]
    exact ⟨fun h => h.1, fun h => ⟨h, bump_gt 1 (v.1, v.2.1, w.2.2.1, w.2.2.2.1, ()) v.1 v.2.1 v.2.2.1 rfl (fun _ => rfl) (fun h => by omega)⟩⟩)
  have cw := F26_is w v hW hV
  have cy := F26_is (v.1, v.2.1, w.2.2.1, w.2.2.2.1, ()) v oky hV
  have cx := F26_is (v.1, w.2.1, w.2.2.1, w.2.2.2.1, ()) v okx hV
  have fk' : F29 (x4, Int.ofNat 7, ()) = _ := fk
  have z : ((0 : Int) == Int.ofNat 0) = true := rfl
  simp only at hasTy cy cx
  rw [F6_eq, fv, obs, fw, obs, cw, obs, fk', obs]
  simp only
  rw [ge_zero, cT, Int.toNat_natCast, k1, obs, cT, k2, obs, F33_is v hN, obs, fits_of (x := lit op) (y := lit (verT v)) (by rw [sz, sz]; omega), cT, q1, obs, obs, fits_of (x := lit (verT v)) (y := lit [32, 45, 32]) (by rw [sz, sz]; show _ + 3 ≤ _; omega), cT, F33_is w hM, obs,
    fits_of (x := lit (verT v) ++ lit [32, 45, 32]) (y := lit (verT w)) (by rw [ByteArray.size_append, sz, sz, sz]; show _ + 3 + _ ≤ _; omega), cT, q2, obs, obs, fits_of (x := lit [94]) (y := lit (verT v)) (by rw [sz, sz]; show 1 + _ ≤ _; omega), cT, q3, obs, obs, fits_of (x := lit [126]) (y := lit (verT v)) (by rw [sz, sz]; show 1 + _ ≤ _; omega), cT, q4, obs]
  simp only
  rw [hasTy, cy, hasL, hasB, hasCv, hasTv]
  simp only [obs, z, cT, beq_self_eq_true, Bool.not_true, Bool.not_false]
  by_cases hA : v.1 > Int.ofNat 0
  · have hasCx := has_is c1 okx (by omega) (decide (cmpV (v.1, w.2.1, w.2.2.1, w.2.2.2.1, ()) v ≥ Int.ofNat 0)) (by
      have hA' : (0 : Int) < v.1 := hA
      have hc : caretK v.1 v.2.1 = 0 := by unfold caretK; rw [if_pos hA']
      rw [dC, le_cmp, decide_eq_true_eq, hc]
      exact ⟨fun h => h.1, fun h => ⟨h, bump_gt 0 (v.1, w.2.1, w.2.2.1, w.2.2.2.1, ()) v.1 v.2.1 v.2.2.1 rfl (fun h => by omega) (fun h => by omega)⟩⟩)
    simp only at hasCx
    rw [decide_eq_true hA, cT, hasCx, obs, cx, obs]
    simp only [beq_self_eq_true, Bool.not_true, Bool.not_false, cT]
  · rw [decide_eq_false hA, cF]
end Go.Vx.Z
namespace Go.Proofs.YtildhhdbikpbaaaGreatDoor
open Go Go.Vx Go.ChangeShapes Go.WideShapes Go.ChangeAt Go.RowKit
open Go.ChangeMaps (open_string shut_string)
set_option linter.unusedVariables false
namespace spanMeans
theorem own : ownKnob Tryz.prog.godebug = none := by kernel_rfl
theorem laidOut : laidOutB Tryz.prog = true := by kernel_rfl
set_option maxRecDepth 100000 in
theorem lifted (os : Os) (started : os.Started) (H : Type) (enc : TypeId × Value → H) :
    ReturnsInHanded {} Tryz.checked os 6 .any (fun w args => (Rows.spanMeansSpec.pre enc Tryz.prog Tryz.f6 Rows.spanMeansRow.domain false w args ∧ laidMetH Tryz.prog Rows.spanMeansRow.laid w) ∧ sizedMet enc Tryz.prog Tryz.f6 (OpenSpec.ofChange Rows.spanMeansSpec) false w args)
      (Rows.spanMeansSpec.post enc Tryz.prog Tryz.f6 false true false false) := by
  refine returnsInHanded_of_change_and (C := Tryz.checked) (X := fun w _ => laidMetH Tryz.prog Rows.spanMeansRow.laid w) (fun _ _ _ hh h => h.of_heap hh) own started (by kernel_rfl) Tryz.func6
    (ChangeSpec.witness_shaped (enc := enc) (C := Tryz.checked) (os := os) (X := fun w _ => laidMetH Tryz.prog Rows.spanMeansRow.laid w) false (World.laidAll Tryz.prog os Rows.spanMeansRow.laid) #[.int .i64 0, .int .i64 0, .int .i64 0, .int .i64 0, .int .i64 0] 8 (World.laidAll_os _ _ _)
      (World.shaped_of_ZipB (by kernel_rfl) (by kernel_rfl)) (by kernel_rfl) (by kernel_rfl) (by kernel_rfl)
      (by rw [MakeChecks.laidMetH_plain _ _ _ (by kernel_rfl)]; exact laidMet_laidAll _ (by kernel_rfl) (by kernel_rfl))) ?_
  intro W base args ds gs before hval0 hW hc hsz0 hL _
  have hsz : (DataW.weightsEach Tryz.prog (Tryz.f6.params.toList ++ Rows.spanMeansSpec.plain.varTypes Tryz.prog) (ds ++ gs)).all (· ≤ reachBytes) = true := hsz0
  have hval : ∀ (j : Nat) t v, Tryz.f6.params[j]? = some t → args[j]? = some v → Value.okWide Tryz.prog W .any base t v := hval0
  have hW' := hW
  obtain ⟨p, q, hA0, hV, rfl, hfz, hnd⟩ := hW
  have hA : DataW.TrodAll enc Tryz.prog W 0 (fun _ => true) true Tryz.f6.params.toList args.toList ds p := hA0
  rw [Tryz.params6] at hA hval hsz
  obtain ⟨v0, vs0, d0, ds0, p0, q0, hargs, rfl, rfl, h0, r0⟩ := trodAll_cons hA
  obtain ⟨v1, vs1, d1, ds1, p1, q1, rfl, rfl, rfl, h1, r1⟩ := trodAll_cons r0
  obtain ⟨v2, vs2, d2, ds2, p2, q2, rfl, rfl, rfl, h2, r2⟩ := trodAll_cons r1
  obtain ⟨v3, vs3, d3, ds3, p3, q3, rfl, rfl, rfl, h3, r3⟩ := trodAll_cons r2
  obtain ⟨v4, vs4, d4, ds4, p4, q4, rfl, rfl, rfl, h4, r4⟩ := trodAll_cons r3
  obtain ⟨rfl, rfl, rfl⟩ := trodAll_nil r4
  obtain rfl : args = #[v0, v1, v2, v3, v4] := by cases args; simp_all
  obtain ⟨rfl, rfl⟩ := trodVars_none hV
  obtain ⟨a0, rfl, rfl, rfl, w0⟩ := open_int Tryz.underlying3 (hval 0 3 v0 rfl rfl) h0
  obtain ⟨a1, rfl, rfl, rfl, w1⟩ := open_int Tryz.underlying3 (hval 1 3 v1 rfl rfl) h1
  obtain ⟨a2, rfl, rfl, rfl, w2⟩ := open_int Tryz.underlying3 (hval 2 3 v2 rfl rfl) h2
  obtain ⟨a3, rfl, rfl, rfl, w3⟩ := open_int Tryz.underlying3 (hval 3 3 v3 rfl rfl) h3
  obtain ⟨a4, rfl, rfl, rfl, w4⟩ := open_int Tryz.underlying3 (hval 4 3 v4 rfl rfl) h4
  clear hA0 hval0 hsz0 hsz
  have hst : ∀ y, (False) → y.spot = none ∧ ∃ v, W.cell? y = some v := by
    intro y hy
    cases hy
  have hL1 : laidMet Tryz.prog Rows.spanMeansRow.laid W := by rw [← MakeChecks.laidMetH_plain _ _ _ (by kernel_rfl)]; exact hL
  have hG := ground_of_laid hL1 (List.mem_cons_of_mem _ (List.mem_cons_of_mem _ List.mem_cons_self)) (by kernel_rfl) (g := 1) (t := 193) (n := 20) (e := 153) (by kernel_rfl) (by kernel_rfl) Tryz.underlying193 Tryz.underlying153 (by kernel_rfl) (by kernel_rfl)
  refine (law_calls (Go.Vx.Z.ok6) rfl (enters_of Tryz.func6 (by kernel_rfl) rfl) hG.1 hG.2 (S := fun y => False) hst (a0, a1, a2, a3, a4, ()) (Go.Vx.Z.pure_SpanMeans a0 a1 a2 a3 a4 w0 w1 w2 w3 w4) rfl (fun i => ?_)).mono fun e W' ⟨he, bel⟩ => ?_
  · match i with
    | 0 => exact rfl
    | 1 => exact rfl
    | 2 => exact rfl
    | 3 => exact rfl
    | 4 => exact rfl
    | i + 5 => trivial
  subst he
  exact ⟨_, rfl, _, _, _, [], _, [], hW', trodAll_mk1 (shut_bool Tryz.underlying4 _), (trodAll_cons_mk (shut_int Tryz.underlying3 w0) (trodAll_cons_mk (shut_int Tryz.underlying3 w1) (trodAll_cons_mk (shut_int Tryz.underlying3 w2) (trodAll_cons_mk (shut_int Tryz.underlying3 w3) (trodAll_cons_mk (shut_int Tryz.underlying3 w4) trodAll_mk0))))), rfl, bel.frame _, fun h => by cases h⟩
theorem holds : Rows.SpanMeansSaid :=
  OpenClaim.holds_of_wide 6 Tryz.f6 rfl rfl rfl rfl rfl rfl rfl ⟨rfl, rfl, rfl, rfl, rfl⟩ rfl rfl rfl rfl rfl (by kernel_rfl) Tryz.func6 (by kernel_rfl)
    (of_decide_eq_true (by kernel_rfl)) (by unfold Func.isWrapper; first | (rw [if_pos (by decide +kernel)]; kernel_rfl) | (rw [if_neg (by decide +kernel)]; exact ⟨rfl, rfl⟩))
    (fun os started H enc _ => lifted os started H enc)
theorem card_holds : Rows.SpanMeansCardSaid :=
  Claim7.holds_tied_plain_at .later [] [.data, .data, .data, .data, .pinned] true (true, "677dda388697c3be81f00c8f3e7162a91e326615aec89fc25f0adc6f7f408f5b") false holds (fun _ h => by cases h) (by kernel_rfl) (fun _ h => by cases h) spanMeans_row_tie rfl ⟨rfl, rfl⟩ (by kernel_rfl) rfl
    (fun f fn hf hfn => by
      obtain rfl : f = 6 := Option.some.inj ((show Tryz.prog.funcNamed "transhumance/transhumancelaw3.SpanMeans" = some 6 by kernel_rfl).symm.trans hf) |>.symm
      obtain rfl : fn = Tryz.f6 := (Option.some.inj (Tryz.func6.symm.trans hfn)).symm
      exact ⟨by kernel_rfl, fun j t ht => by
        rw [Tryz.params6] at ht
        have hm : t ∈ [3, 3, 3, 3, 3] := by simpa using Array.mem_of_getElem? ht
        have hall : ([3, 3, 3, 3, 3].all fun u => !Tryz.prog.wantsStandIn u) = true := by kernel_rfl
        exact (show Tryz.prog.wantsStandIn t = false by simpa using List.all_eq_true.1 hall t hm)⟩)
    (by kernel_rfl)
end spanMeans
end Go.Proofs.YtildhhdbikpbaaaGreatDoor
