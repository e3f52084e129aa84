/- any text, one of words with a byte turned, cut off, with others laid in, says the document's spans, or is refused at the document's byte -/
import Derived.Test.YtildhhdbikpbaaaGreatDoorV6
import Derived.Test.YtildhhdbikpbaaaGreatDoorV2
import Derived.Test.YtildhhdbikpbaaaGreatDoorRows
import Derived.Test.YtildhhdbikpbaaaGreatDoorTie
import Derived.Test.YtildhhdbikpbaaaGreatDoorCards
import Derived.Test.YtildhhdbikpbaaaGreatDoorV4
import Derived.WalkKit
import Derived.ProofKit
import Derived.OpenShut
import Derived.ShutString
import Derived.ChangeOld
import Derived.Below
import Derived.SizedLaws
import Derived.LaidMore
import Derived.Lay
import Derived.SevenTiedAt
import Derived.Stop.Joined
import Derived.KernelRfl
set_option linter.unusedSimpArgs false
/-! SpanParses -/
namespace Go.Vx.Z
open Go Go.Vx
set_option linter.unusedVariables false
set_option maxRecDepth 100000
theorem bstr_size (l : List Int) : (bstr l).size = l.length := by
 have key : ∀ (l : List Int) (r : ByteArray), (l.foldl (fun r n => r.push (UInt8.ofNat n.toNat)) r).size = r.size + l.length := by
  intro l
  induction l with
  | nil => intro r; simp
  | cons a l ih =>
   intro r
   rw [List.foldl_cons, ih]
   simp only [ByteArray.size_push, List.length_cons]
   omega
 unfold bstr
 rw [key]
 simp
theorem ext_size (s : ByteArray) (i j : Nat) : (s.extract i j).size ≤ s.size := by
 rw [bs_size, bs_size, bs_extract, List.length_drop, List.length_take]
 omega
theorem B5_is (ts : List ByteArray) (hl : ts.length ≤ 100) (hs : ∀ t ∈ ts, t.size ≤ 400000) : loop B5_0 (Int.ofNat 0, ts, ()) = some (.inr ()) := by
 have := loop_row (B := B5_0) (fun i => ((i : Int), ts, ())) ts.length (e := .inr ()) (fun i hi => by
  obtain ⟨R, x, n, f1, f2, f3⟩ := parse_any ts[i] (hs _ (List.getElem_mem hi))
  have hsame := same_is (a := R) (b := R) f3 rfl
  rw [B5_0_eq]
  simp only [lt_in hi, ge_zero, cT, at_in hi, obs, f1, f2]
  rw [hsame, obs]
  simp only [Bool.not_true, cF, beq_self_eq_true]
  rw [wrap_next hi (by omega)]) (by
  rw [B5_0_eq]
  rw [lt_out, cF])
 exact this
theorem pure_SpanParses (x0 : List Int) (x1 x2 x3 : Int) (x4 x5 : ByteArray) (h0 : ∀ x ∈ x0, (Lit.int .i64 x).wf = true) (h1 : (Lit.int .i64 x1).wf = true) (h2 : (Lit.int .u8 x2).wf = true) (h3 : (Lit.int .i64 x3).wf = true) (h4 : x4.size ≤ 140737488351232) (h5 : x5.size ≤ 140737488351232) : F5 (x0, x1, x2, x3, x4, x5, ()) = some (true, ()) := by
 rw [F5_eq]
 by_cases c4 : 30 < x4.size
 ·rw [show decide (Int.ofNat x4.size > Int.ofNat 30) = true from decide_eq_true (by show (30 : Int) < x4.size; omega), cT]
 rw [show decide (Int.ofNat x4.size > Int.ofNat 30) = false from decide_eq_false (by show ¬ (30 : Int) < x4.size; omega), cF]
 by_cases c5 : 100 < x5.size
 ·rw [show decide (Int.ofNat x5.size > Int.ofNat 100) = true from decide_eq_true (by show (100 : Int) < x5.size; omega), cT]
 rw [show decide (Int.ofNat x5.size > Int.ofNat 100) = false from decide_eq_false (by show ¬ (100 : Int) < x5.size; omega), cF]
 obtain ⟨l, n, f28, hn, hT⟩ := F28_is x0
 have hll : l.length ≤ 840 := Nat.le_trans hT.2.1 (by omega)
 have hne : 0 < l.length := List.length_pos_iff.2 hT.2.2.2
 have hlen : (List.map (fun b => Int.ofNat b.1.1.1) (bl (lit l))).length = l.length := by rw [List.length_map, bs_toList, bs_lit]
 obtain ⟨k, hk, fk⟩ := F29_is x1 l.length hne (by omega)
 obtain ⟨k2, hk2, fk2⟩ := F29_is x3 (l.length + 1) (by omega) (by omega)
 have fk' : F29 (x1, Int.ofNat l.length, ()) = some ((k : Int), ()) := fk
 have fk2' : F29 (x3, Int.ofNat (l.length + 1), ()) = some ((k2 : Int), ()) := fk2
 have hsz : (lit l).size = l.length := rfl
 have hw : IntKind.wrap IntKind.i64 (Int.ofNat l.length + Int.ofNat 1) = Int.ofNat (l.length + 1) := wrap64s l.length (by omega)
 rw [f28, obs]
 simp only
 rw [hlen, fk', obs, hsz, hw]
 simp only
 have hkl : k < (List.map (fun b => Int.ofNat b.1.1.1) (bl (lit l))).length := by rw [hlen]; exact hk
 have a1 : (decide (Int.ofNat 0 ≤ (k : Int)) && decide ((k : Int) < Int.ofNat l.length) && true) = true := by rw [ge_zero, lt_in hk]; rfl
 have a2 : (List.map (fun b => Int.ofNat b.1.1.1) (bl (lit l)))[Int.toNat (k : Int)]? = some _ := at_in hkl
 have a3 : (decide (Int.ofNat 0 ≤ (k2 : Int)) && decide ((k2 : Int) ≤ Int.ofNat l.length)) = true := by
  rw [ge_zero, Bool.true_and, decide_eq_true_eq]; show (k2 : Int) ≤ (l.length : Int); omega
 have a4 : (decide (Int.ofNat 0 ≤ (k2 : Int)) && (decide ((k2 : Int) ≤ Int.ofNat l.length) && decide (Int.ofNat l.length ≤ Int.ofNat l.length))) = true := by
  rw [ge_zero, Bool.true_and, Bool.and_eq_true, decide_eq_true_eq, decide_eq_true_eq]
  exact ⟨by show (k2 : Int) ≤ (l.length : Int); omega, Int.le_refl _⟩
 rw [a1, cT, a2, obs, cT, obs, fk2', obs]
 simp only
 rw [a3, cT, cT]
 have z1 := ext_size (lit l) 0 (Int.toNat (k2 : Int))
 have z2 := ext_size (lit l) (Int.toNat (k2 : Int)) (Int.toNat (Int.ofNat l.length))
 rw [hsz] at z1 z2
 have zs : ∀ m : List UInt8, (lit m).size = m.length := fun m => rfl
 rw [fits_of (by omega), cT, a4, cT, fits_of (by rw [ByteArray.size_append]; omega), cT, fits_of (by rw [zs, zs]; show 1 + _ ≤ _; omega), cT, fits_of (by rw [ByteArray.size_append, zs, zs, zs]; show 1 + _ + 2 ≤ _; omega), cT, fits_of (by rw [zs, zs]; show _ + 2 ≤ _; omega), cT, fits_of (by rw [zs, zs]; show _ + 3 ≤ _; omega), cT,
  fits_of (by rw [zs, zs]; show 3 + _ ≤ _; omega), cT, fits_of (by rw [zs, zs]; show _ + 3 ≤ _; omega), cT, fits_of (by rw [ByteArray.size_append, zs, zs]; show _ + 3 + _ ≤ _; omega), cT]
 rw [B5_is _ (by simp) (by
  intro t ht
  simp only [List.mem_cons, List.not_mem_nil, or_false] at ht
  have y1 : ([32] : List UInt8).length = 1 := rfl
  have y2 : ([32, 32] : List UInt8).length = 2 := rfl
  have y3 : ([32, 124] : List UInt8).length = 2 := rfl
  have y4 : ([32, 124, 124] : List UInt8).length = 3 := rfl
  have y5 : ([124, 124, 32] : List UInt8).length = 3 := rfl
  have y6 : ([32, 45, 32] : List UInt8).length = 3 := rfl
  rcases ht with rfl | rfl | rfl | rfl | rfl | rfl | rfl | rfl | rfl | rfl
  ·rw [zs]; omega
  ·rw [bstr_size, List.length_set, hlen]; omega
  ·omega
  ·rw [ByteArray.size_append, ByteArray.size_append]; omega
  ·omega
  ·rw [ByteArray.size_append, ByteArray.size_append, zs, zs, zs]; omega
  ·rw [ByteArray.size_append, zs, zs]; omega
  ·rw [ByteArray.size_append, zs, zs]; omega
  ·rw [ByteArray.size_append, zs, zs]; omega
  ·rw [ByteArray.size_append, ByteArray.size_append, zs, zs]; omega), obs, sR]
end Go.Vx.Z
namespace Go.Proofs.YtildhhdbikpbaaaGreatDoor
open Go Go.Vx Go.ChangeShapes Go.WideShapes Go.ChangeAt Go.RowKit
open Go.ChangeMaps (open_string shut_string)
set_option linter.unusedVariables false
namespace spanParses
theorem own : ownKnob Tryz.prog.godebug = none := by kernel_rfl
theorem laidOut : laidOutB Tryz.prog = true := by kernel_rfl
set_option maxRecDepth 100000 in
theorem lifted (os : Os) (started : os.Started) (H : Type) (enc : TypeId × Value → H) :
  ReturnsInHanded {} Tryz.checked os 5 .any (fun w args => (Rows.spanParsesSpec.pre enc Tryz.prog Tryz.f5 Rows.spanParsesRow.domain false w args ∧ laidMetH Tryz.prog Rows.spanParsesRow.laid w) ∧ sizedMet enc Tryz.prog Tryz.f5 (OpenSpec.ofChange Rows.spanParsesSpec) false w args)
   (Rows.spanParsesSpec.post enc Tryz.prog Tryz.f5 false true false false) := by
 refine returnsInHanded_of_change_and (C := Tryz.checked) (X := fun w _ => laidMetH Tryz.prog Rows.spanParsesRow.laid w) (fun _ _ _ hh h => h.of_heap hh) own started (by kernel_rfl) Tryz.func5
  (ChangeSpec.witness_shaped (enc := enc) (C := Tryz.checked) (os := os) (X := fun w _ => laidMetH Tryz.prog Rows.spanParsesRow.laid w) false (World.laidAll Tryz.prog os Rows.spanParsesRow.laid) #[.slice none 0 0, .int .i64 0, .int .u8 0, .int .i64 0, .string ByteArray.empty, .string ByteArray.empty] 8 (World.laidAll_os _ _ _)
   (World.shaped_of_ZipB (by kernel_rfl) (by kernel_rfl)) (by kernel_rfl) (by kernel_rfl) (by kernel_rfl)
   (by rw [MakeChecks.laidMetH_plain _ _ _ (by kernel_rfl)]; exact laidMet_laidAll _ (by kernel_rfl) (by kernel_rfl))) ?_
 intro W base args ds gs before hval0 hW hc hsz0 hL _
 have hsz : (DataW.weightsEach Tryz.prog (Tryz.f5.params.toList ++ Rows.spanParsesSpec.plain.varTypes Tryz.prog) (ds ++ gs)).all (· ≤ reachBytes) = true := hsz0
 have hval : ∀ (j : Nat) t v, Tryz.f5.params[j]? = some t → args[j]? = some v → Value.okWide Tryz.prog W .any base t v := hval0
 have hW' := hW
 obtain ⟨p, q, hA0, hV, rfl, hfz, hnd⟩ := hW
 have hA : DataW.TrodAll enc Tryz.prog W 0 (fun _ => true) true Tryz.f5.params.toList args.toList ds p := hA0
 rw [Tryz.params5] at hA hval hsz
 obtain ⟨v0, vs0, d0, ds0, p0, q0, hargs, rfl, rfl, h0, r0⟩ := trodAll_cons hA
 obtain ⟨v1, vs1, d1, ds1, p1, q1, rfl, rfl, rfl, h1, r1⟩ := trodAll_cons r0
 obtain ⟨v2, vs2, d2, ds2, p2, q2, rfl, rfl, rfl, h2, r2⟩ := trodAll_cons r1
 obtain ⟨v3, vs3, d3, ds3, p3, q3, rfl, rfl, rfl, h3, r3⟩ := trodAll_cons r2
 obtain ⟨v4, vs4, d4, ds4, p4, q4, rfl, rfl, rfl, h4, r4⟩ := trodAll_cons r3
 obtain ⟨v5, vs5, d5, ds5, p5, q5, rfl, rfl, rfl, h5, r5⟩ := trodAll_cons r4
 obtain ⟨rfl, rfl, rfl⟩ := trodAll_nil r5
 obtain rfl : args = #[v0, v1, v2, v3, v4, v5] := by cases args; simp_all
 obtain ⟨rfl, rfl⟩ := trodVars_none hV
 obtain ⟨a0, len0, cap0, rfl⟩ := okWide_slice Tryz.underlying22 (hval 0 22 v0 rfl rfl)
 have k0 := h0
 have lt0 : ∀ x ∈ p0, x.block < W.heap.size := by obtain ⟨m, hm⟩ := k0; exact DataW.trod_lt m _ _ _ hm
 obtain ⟨z0, w0⟩ : ∃ zs, IsRow .i64 W a0 len0 cap0 zs := by
  obtain ⟨fuel, hf⟩ := h0
  rcases open_ints Tryz.underlying22 Tryz.underlying3 (by kernel_rfl) hf with ⟨hcs, _⟩ | ⟨x, l, c, zs, hcs, _, hl, hm, hz, _, hcell, hwz⟩
  ·simp [Value.cells] at hcs
   obtain ⟨rfl, rfl, rfl⟩ := hcs
   exact ⟨[], .inl ⟨rfl, rfl, rfl, rfl⟩⟩
  ·simp [Value.cells] at hcs
   obtain ⟨rfl, rfl, rfl⟩ := hcs
   exact ⟨zs, .inr ⟨_, rfl, hl, hm, by simpa using hz, hcell, hwz⟩⟩
 have wf0 : ∀ x ∈ z0.take len0, (Lit.int .i64 x).wf = true := by
  rcases w0 with ⟨_, _, _, rfl⟩ | ⟨_, _, _, _, _, _, hwf⟩
  ·simp
  ·exact fun x hx => hwf x (List.mem_of_mem_take hx)
 obtain ⟨a1, rfl, rfl, rfl, w1⟩ := open_int Tryz.underlying3 (hval 1 3 v1 rfl rfl) h1
 obtain ⟨a2, rfl, rfl, rfl, w2⟩ := open_int Tryz.underlying5 (hval 2 5 v2 rfl rfl) h2
 obtain ⟨a3, rfl, rfl, rfl, w3⟩ := open_int Tryz.underlying3 (hval 3 3 v3 rfl rfl) h3
 obtain ⟨a4, rfl, rfl, rfl, y4⟩ := open_string Tryz.underlying9 (hval 4 9 v4 rfl rfl) h4
 have w4 : a4.size ≤ 140737488351232 := by
  have z := sized_string hsz (j := 4) (t := 9) rfl rfl
  rw [Array.length_toList] at z
  exact z
 obtain ⟨a5, rfl, rfl, rfl, y5⟩ := open_string Tryz.underlying9 (hval 5 9 v5 rfl rfl) h5
 have w5 : a5.size ≤ 140737488351232 := by
  have z := sized_string hsz (j := 5) (t := 9) rfl rfl
  rw [Array.length_toList] at z
  exact z
 clear hA0 hval0 hsz0 hsz
 have hst : ∀ y, (RowS a0 z0.length y) → y.spot = none ∧ ∃ v, W.cell? y = some v := by
  intro y hy
  exact isRow_st w0 hy
 have hL1 : laidMet Tryz.prog Rows.spanParsesRow.laid W := by rw [← MakeChecks.laidMetH_plain _ _ _ (by kernel_rfl)]; exact hL
 have hG := ground_of_laid hL1 (List.mem_cons_of_mem _ (List.mem_cons_of_mem _ List.mem_cons_self)) (by kernel_rfl) (g := 1) (t := 193) (n := 20) (e := 153) (by kernel_rfl) (by kernel_rfl) Tryz.underlying193 Tryz.underlying153 (by kernel_rfl) (by kernel_rfl)
 refine (law_calls (Go.Vx.Z.ok5) rfl (enters_of Tryz.func5 (by kernel_rfl) rfl) hG.1 hG.2 (S := fun y => RowS a0 z0.length y) hst ((z0.take len0), a1, a2, a3, a4, a5, ()) (Go.Vx.Z.pure_SpanParses (z0.take len0) a1 a2 a3 a4 a5 wf0 w1 w2 w3 w4 w5) rfl (fun i => ?_)).mono fun e W' ⟨he, bel⟩ => ?_
 ·match i with
  | 0 => exact isRow_rep w0 (fun y hy => hy)
  | 1 => exact rfl
  | 2 => exact rfl
  | 3 => exact rfl
  | 4 => exact rfl
  | 5 => exact rfl
  | i + 6 => trivial
 subst he
 exact ⟨_, rfl, _, _, _, [], _, [], hW', trodAll_mk1 (shut_bool Tryz.underlying4 _), (trodAll_cons_mk (Below.trod laidOut (by kernel_rfl) (of_decide_eq_true (by kernel_rfl)) k0 bel lt0) (trodAll_cons_mk (shut_int Tryz.underlying3 w1) (trodAll_cons_mk (shut_int Tryz.underlying5 w2) (trodAll_cons_mk (shut_int Tryz.underlying3 w3) (trodAll_cons_mk (shut_string Tryz.underlying9 y4) (trodAll_cons_mk (shut_string Tryz.underlying9 y5) trodAll_mk0)))))), rfl, bel.frame _, fun h => by cases h⟩
theorem holds : Rows.SpanParsesSaid :=
 OpenClaim.holds_of_wide 5 Tryz.f5 rfl rfl rfl rfl rfl rfl rfl ⟨rfl, rfl, rfl, rfl, rfl⟩ rfl rfl rfl rfl rfl (by kernel_rfl) Tryz.func5 (by kernel_rfl)
  (of_decide_eq_true (by kernel_rfl)) (by unfold Func.isWrapper; first | (rw [if_pos (by decide +kernel)]; kernel_rfl) | (rw [if_neg (by decide +kernel)]; exact ⟨rfl, rfl⟩))
  (fun os started H enc _ => lifted os started H enc)
theorem card_holds : Rows.SpanParsesCardSaid :=
 Claim7.holds_tied_plain_at .later [] [.data, .data, .data, .data, .pinned] true (true, "677dda388697c3be81f00c8f3e7162a91e326615aec89fc25f0adc6f7f408f5b") false holds (fun _ h => by cases h) (by kernel_rfl) (fun _ h => by cases h) spanParses_row_tie rfl ⟨rfl, rfl⟩ (by kernel_rfl) rfl
  (fun f fn hf hfn => by
   obtain rfl : f = 5 := Option.some.inj ((show Tryz.prog.funcNamed "transhumance/transhumancelaw3.SpanParses" = some 5 by kernel_rfl).symm.trans hf) |>.symm
   obtain rfl : fn = Tryz.f5 := (Option.some.inj (Tryz.func5.symm.trans hfn)).symm
   exact ⟨by kernel_rfl, fun j t ht => by
    rw [Tryz.params5] at ht
    have hm : t ∈ [22, 3, 5, 3, 9, 9] := by simpa using Array.mem_of_getElem? ht
    have hall : ([22, 3, 5, 3, 9, 9].all fun u => !Tryz.prog.wantsStandIn u) = true := by kernel_rfl
    exact (show Tryz.prog.wantsStandIn t = false by simpa using List.all_eq_true.1 hall t hm)⟩)
  (by kernel_rfl)
end spanParses
end Go.Proofs.YtildhhdbikpbaaaGreatDoor
