/- these texts are refused just there -/
import Derived.Test.YtildhhdbikpbaaaGreatDoorV5
import Derived.Test.YtildhhdbikpbaaaGreatDoorV2
import Derived.Test.YtildhhdbikpbaaaGreatDoorRows
import Derived.Test.YtildhhdbikpbaaaGreatDoorTie
import Derived.Test.YtildhhdbikpbaaaGreatDoorCards
import Derived.Test.YtildhhdbikpbaaaGreatDoorV4
import Derived.WalkKit
import Derived.ProofKit
import Derived.OpenShut
import Derived.ShutString
import Derived.ChangeOld
import Derived.Below
import Derived.SizedLaws
import Derived.LaidMore
import Derived.Lay
import Derived.SevenTiedAt
import Derived.Stop.Joined
import Derived.KernelRfl
set_option linter.unusedSimpArgs false
/-! SpanBad -/
namespace Go.Vx.Z
open Go Go.Vx
set_option linter.unusedVariables false
set_option maxRecDepth 1000000
theorem bg0 : goP (lex []) [] allS .start = .inr 0 := by kernel_rfl
theorem bg1 : goP (lex [32, 32]) [] allS .start = .inr 0 := by kernel_rfl
theorem bg2 : goP (lex [120]) [] allS .start = .inr 1 := by kernel_rfl
theorem bg3 : goP (lex [118, 49, 46, 48, 46, 48, 32, 124]) [] allS .start = .inr 0 := by kernel_rfl
theorem bg4 : goP (lex [118, 49, 46, 48, 46, 48, 32, 124, 32, 118, 50, 46, 48, 46, 48]) [] allS .start = .inr 7 := by kernel_rfl
theorem bg5 : goP (lex [118, 49, 46, 48, 46, 48, 32, 124, 124]) [] allS .start = .inr 0 := by kernel_rfl
theorem bg6 : goP (lex [124, 124, 32, 118, 49, 46, 48, 46, 48]) [] allS .start = .inr 9 := by kernel_rfl
theorem bg7 : goP (lex [62, 61, 32, 118, 49, 46, 48, 46, 48]) [] allS .start = .inr 9 := by kernel_rfl
theorem bg8 : goP (lex [118, 49, 46, 48, 46, 48, 32, 45, 32]) [] allS .start = .inr 0 := by kernel_rfl
theorem bg9 : goP (lex [118, 49, 46, 48, 46, 48, 32, 45, 32, 120]) [] allS .start = .inr 1 := by kernel_rfl
theorem bg10 : goP (lex [94, 118, 49, 46, 48, 46, 48, 32, 45, 32, 118, 50, 46, 48, 46, 48]) [] allS .start = .inr 8 := by kernel_rfl
theorem bg11 : goP (lex [45, 32, 118, 49, 46, 48, 46, 48]) [] allS .start = .inr 8 := by kernel_rfl
theorem bg12 : goP (lex [118, 49, 46, 48, 46, 48, 32, 45, 118, 50, 46, 48, 46, 48]) [] allS .start = .inr 7 := by kernel_rfl
theorem bg13 : goP (lex [118, 49]) [] allS .start = .inr 2 := by kernel_rfl
theorem bg14 : goP (lex [118, 49, 46, 48]) [] allS .start = .inr 4 := by kernel_rfl
theorem bg15 : goP (lex [118, 49, 46, 48, 46, 48, 45]) [] allS .start = .inr 7 := by kernel_rfl
theorem bg16 : goP (lex [42, 42]) [] allS .start = .inr 2 := by kernel_rfl
theorem bg17 : goP (lex [118, 49, 46, 120, 46, 120]) [] allS .start = .inr 6 := by kernel_rfl
theorem bg18 : goP (lex [118, 120]) [] allS .start = .inr 2 := by kernel_rfl
theorem bg19 : goP (lex [118, 49, 46, 48, 46, 48, 32, 45, 32, 118, 50, 46, 48, 46, 48, 32, 45, 32, 118, 51, 46, 48, 46, 48]) [] allS .start = .inr 8 := by kernel_rfl
theorem bg20 : goP (lex [118, 48, 49, 46, 120]) [] allS .start = .inr 5 := by kernel_rfl
theorem bg21 : goP (lex [118, 49, 48, 48, 48, 48, 48, 48, 46, 120]) [] allS .start = .inr 10 := by kernel_rfl
theorem bg22 : goP (lex [118, 49, 46, 48, 46, 48, 124, 124, 124, 118, 49, 46, 48, 46, 48]) [] allS .start = .inr 7 := by kernel_rfl
theorem bad_bytes {l : List UInt8} {n : Nat} (hs : l.length ≤ 400000) (hl : low l = true) (h : goP (lex l) [] allS .start = .inr n) : F30 (lit l, ()) = some ([], ((l.length - n : Nat) : Int), 6, ()) := by
  have := (F30_is (lit l) hs (any_low (lit l) (by show l.length ≤ _; omega) hl)).2
  rw [bs_lit, h] at this
  exact this
theorem pure_SpanBad (x0 : Int) (h0 : (Lit.int .i64 x0).wf = true) : F11 (x0, ()) = some (true, ()) := by
  obtain ⟨k, hk, fk⟩ := F29_is x0 23 (by omega) (by omega)
  have fk' : F29 (x0, Int.ofNat 23, ()) = some ((k : Int), ()) := fk
  rw [F11_eq, fk', obs]
  simp only
  rw [ge_zero, cT, Int.toNat_natCast]
  by_cases e0 : k = 0
  · subst e0
    show Option.bind (some (lit [])) _ = _
    rw [obs, bad_bytes (by decide) (by decide) bg0, obs]
    rfl
  by_cases e1 : k = 1
  · subst e1
    show Option.bind (some (lit [32, 32])) _ = _
    rw [obs, bad_bytes (by decide) (by decide) bg1, obs]
    rfl
  by_cases e2 : k = 2
  · subst e2
    show Option.bind (some (lit [120])) _ = _
    rw [obs, bad_bytes (by decide) (by decide) bg2, obs]
    rfl
  by_cases e3 : k = 3
  · subst e3
    show Option.bind (some (lit [118, 49, 46, 48, 46, 48, 32, 124])) _ = _
    rw [obs, bad_bytes (by decide) (by decide) bg3, obs]
    rfl
  by_cases e4 : k = 4
  · subst e4
    show Option.bind (some (lit [118, 49, 46, 48, 46, 48, 32, 124, 32, 118, 50, 46, 48, 46, 48])) _ = _
    rw [obs, bad_bytes (by decide) (by decide) bg4, obs]
    rfl
  by_cases e5 : k = 5
  · subst e5
    show Option.bind (some (lit [118, 49, 46, 48, 46, 48, 32, 124, 124])) _ = _
    rw [obs, bad_bytes (by decide) (by decide) bg5, obs]
    rfl
  by_cases e6 : k = 6
  · subst e6
    show Option.bind (some (lit [124, 124, 32, 118, 49, 46, 48, 46, 48])) _ = _
    rw [obs, bad_bytes (by decide) (by decide) bg6, obs]
    rfl
  by_cases e7 : k = 7
  · subst e7
    show Option.bind (some (lit [62, 61, 32, 118, 49, 46, 48, 46, 48])) _ = _
    rw [obs, bad_bytes (by decide) (by decide) bg7, obs]
    rfl
  by_cases e8 : k = 8
  · subst e8
    show Option.bind (some (lit [118, 49, 46, 48, 46, 48, 32, 45, 32])) _ = _
    rw [obs, bad_bytes (by decide) (by decide) bg8, obs]
    rfl
  by_cases e9 : k = 9
  · subst e9
    show Option.bind (some (lit [118, 49, 46, 48, 46, 48, 32, 45, 32, 120])) _ = _
    rw [obs, bad_bytes (by decide) (by decide) bg9, obs]
    rfl
  by_cases e10 : k = 10
  · subst e10
    show Option.bind (some (lit [94, 118, 49, 46, 48, 46, 48, 32, 45, 32, 118, 50, 46, 48, 46, 48])) _ = _
    rw [obs, bad_bytes (by decide) (by decide) bg10, obs]
    rfl
  by_cases e11 : k = 11
  · subst e11
    show Option.bind (some (lit [45, 32, 118, 49, 46, 48, 46, 48])) _ = _
    rw [obs, bad_bytes (by decide) (by decide) bg11, obs]
    rfl
  by_cases e12 : k = 12
  · subst e12
    show Option.bind (some (lit [118, 49, 46, 48, 46, 48, 32, 45, 118, 50, 46, 48, 46, 48])) _ = _
    rw [obs, bad_bytes (by decide) (by decide) bg12, obs]
    rfl
  by_cases e13 : k = 13
  · subst e13
    show Option.bind (some (lit [118, 49])) _ = _
    rw [obs, bad_bytes (by decide) (by decide) bg13, obs]
    rfl
  by_cases e14 : k = 14
  · subst e14
    show Option.bind (some (lit [118, 49, 46, 48])) _ = _
    rw [obs, bad_bytes (by decide) (by decide) bg14, obs]
    rfl
  by_cases e15 : k = 15
  · subst e15
    show Option.bind (some (lit [118, 49, 46, 48, 46, 48, 45])) _ = _
    rw [obs, bad_bytes (by decide) (by decide) bg15, obs]
    rfl
  by_cases e16 : k = 16
  · subst e16
    show Option.bind (some (lit [42, 42])) _ = _
    rw [obs, bad_bytes (by decide) (by decide) bg16, obs]
    rfl
  by_cases e17 : k = 17
  · subst e17
    show Option.bind (some (lit [118, 49, 46, 120, 46, 120])) _ = _
    rw [obs, bad_bytes (by decide) (by decide) bg17, obs]
    rfl
  by_cases e18 : k = 18
  · subst e18
    show Option.bind (some (lit [118, 120])) _ = _
    rw [obs, bad_bytes (by decide) (by decide) bg18, obs]
    rfl
  by_cases e19 : k = 19
  · subst e19
    show Option.bind (some (lit [118, 49, 46, 48, 46, 48, 32, 45, 32, 118, 50, 46, 48, 46, 48, 32, 45, 32, 118, 51, 46, 48, 46, 48])) _ = _
    rw [obs, bad_bytes (by decide) (by decide) bg19, obs]
    rfl
  by_cases e20 : k = 20
  · subst e20
    show Option.bind (some (lit [118, 48, 49, 46, 120])) _ = _
    rw [obs, bad_bytes (by decide) (by decide) bg20, obs]
    rfl
  by_cases e21 : k = 21
  · subst e21
    show Option.bind (some (lit [118, 49, 48, 48, 48, 48, 48, 48, 46, 120])) _ = _
    rw [obs, bad_bytes (by decide) (by decide) bg21, obs]
    rfl
  by_cases e22 : k = 22
  · subst e22
    show Option.bind (some (lit [118, 49, 46, 48, 46, 48, 124, 124, 124, 118, 49, 46, 48, 46, 48])) _ = _
    rw [obs, bad_bytes (by decide) (by decide) bg22, obs]
    rfl
  exact absurd hk (by omega)
end Go.Vx.Z
namespace Go.Proofs.YtildhhdbikpbaaaGreatDoor
open Go Go.Vx Go.ChangeShapes Go.WideShapes Go.ChangeAt Go.RowKit
open Go.ChangeMaps (open_string shut_string)
set_option linter.unusedVariables false
namespace spanBad
theorem own : ownKnob Tryz.prog.godebug = none := by kernel_rfl
theorem laidOut : laidOutB Tryz.prog = true := by kernel_rfl
set_option maxRecDepth 100000 in
theorem lifted (os : Os) (started : os.Started) (H : Type) (enc : TypeId × Value → H) :
    ReturnsInHanded {} Tryz.checked os 11 .any (fun w args => (Rows.spanBadSpec.pre enc Tryz.prog Tryz.f11 Rows.spanBadRow.domain false w args ∧ laidMetH Tryz.prog Rows.spanBadRow.laid w) ∧ sizedMet enc Tryz.prog Tryz.f11 (OpenSpec.ofChange Rows.spanBadSpec) false w args)
      (Rows.spanBadSpec.post enc Tryz.prog Tryz.f11 false true false false) := by
  refine returnsInHanded_of_change_and (C := Tryz.checked) (X := fun w _ => laidMetH Tryz.prog Rows.spanBadRow.laid w) (fun _ _ _ hh h => h.of_heap hh) own started (by kernel_rfl) Tryz.func11
    (ChangeSpec.witness_shaped (enc := enc) (C := Tryz.checked) (os := os) (X := fun w _ => laidMetH Tryz.prog Rows.spanBadRow.laid w) false (World.laidAll Tryz.prog os Rows.spanBadRow.laid) #[.int .i64 0] 8 (World.laidAll_os _ _ _)
      (World.shaped_of_ZipB (by kernel_rfl) (by kernel_rfl)) (by kernel_rfl) (by kernel_rfl) (by kernel_rfl)
      (by rw [MakeChecks.laidMetH_plain _ _ _ (by kernel_rfl)]; exact laidMet_laidAll _ (by kernel_rfl) (by kernel_rfl))) ?_
  intro W base args ds gs before hval0 hW hc hsz0 hL _
  have hsz : (DataW.weightsEach Tryz.prog (Tryz.f11.params.toList ++ Rows.spanBadSpec.plain.varTypes Tryz.prog) (ds ++ gs)).all (· ≤ reachBytes) = true := hsz0
  have hval : ∀ (j : Nat) t v, Tryz.f11.params[j]? = some t → args[j]? = some v → Value.okWide Tryz.prog W .any base t v := hval0
  have hW' := hW
  obtain ⟨p, q, hA0, hV, rfl, hfz, hnd⟩ := hW
  have hA : DataW.TrodAll enc Tryz.prog W 0 (fun _ => true) true Tryz.f11.params.toList args.toList ds p := hA0
  rw [Tryz.params11] at hA hval hsz
  obtain ⟨v0, vs0, d0, ds0, p0, q0, hargs, rfl, rfl, h0, r0⟩ := trodAll_cons hA
  obtain ⟨rfl, rfl, rfl⟩ := trodAll_nil r0
  obtain rfl : args = #[v0] := by cases args; simp_all
  obtain ⟨rfl, rfl⟩ := trodVars_none hV
  obtain ⟨a0, rfl, rfl, rfl, w0⟩ := open_int Tryz.underlying3 (hval 0 3 v0 rfl rfl) h0
  clear hA0 hval0 hsz0 hsz
  have hst : ∀ y, (False) → y.spot = none ∧ ∃ v, W.cell? y = some v := by
    intro y hy
    cases hy
  have hL1 : laidMet Tryz.prog Rows.spanBadRow.laid W := by rw [← MakeChecks.laidMetH_plain _ _ _ (by kernel_rfl)]; exact hL
  have hG := ground_of_laid hL1 (List.mem_cons_of_mem _ (List.mem_cons_of_mem _ List.mem_cons_self)) (by kernel_rfl) (g := 1) (t := 193) (n := 20) (e := 153) (by kernel_rfl) (by kernel_rfl) Tryz.underlying193 Tryz.underlying153 (by kernel_rfl) (by kernel_rfl)
  refine (law_calls (Go.Vx.Z.ok11) rfl (enters_of Tryz.func11 (by kernel_rfl) rfl) hG.1 hG.2 (S := fun y => False) hst (a0, ()) (Go.Vx.Z.pure_SpanBad a0 w0) rfl (fun i => ?_)).mono fun e W' ⟨he, bel⟩ => ?_
  · match i with
    | 0 => exact rfl
    | i + 1 => trivial
  subst he
  exact ⟨_, rfl, _, _, _, [], _, [], hW', trodAll_mk1 (shut_bool Tryz.underlying4 _), (trodAll_cons_mk (shut_int Tryz.underlying3 w0) trodAll_mk0), rfl, bel.frame _, fun h => by cases h⟩
theorem holds : Rows.SpanBadSaid :=
  OpenClaim.holds_of_wide 11 Tryz.f11 rfl rfl rfl rfl rfl rfl rfl ⟨rfl, rfl, rfl, rfl, rfl⟩ rfl rfl rfl rfl rfl (by kernel_rfl) Tryz.func11 (by kernel_rfl)
    (of_decide_eq_true (by kernel_rfl)) (by unfold Func.isWrapper; first | (rw [if_pos (by decide +kernel)]; kernel_rfl) | (rw [if_neg (by decide +kernel)]; exact ⟨rfl, rfl⟩))
    (fun os started H enc _ => lifted os started H enc)
theorem card_holds : Rows.SpanBadCardSaid :=
  Claim7.holds_tied_plain_at .later [] [.data, .data, .data, .data, .pinned] true (true, "677dda388697c3be81f00c8f3e7162a91e326615aec89fc25f0adc6f7f408f5b") false holds (fun _ h => by cases h) (by kernel_rfl) (fun _ h => by cases h) spanBad_row_tie rfl ⟨rfl, rfl⟩ (by kernel_rfl) rfl
    (fun f fn hf hfn => by
      obtain rfl : f = 11 := Option.some.inj ((show Tryz.prog.funcNamed "transhumance/transhumancelaw3.SpanBad" = some 11 by kernel_rfl).symm.trans hf) |>.symm
      obtain rfl : fn = Tryz.f11 := (Option.some.inj (Tryz.func11.symm.trans hfn)).symm
      exact ⟨by kernel_rfl, fun j t ht => by
        rw [Tryz.params11] at ht
        have hm : t ∈ [3] := by simpa using Array.mem_of_getElem? ht
        have hall : ([3].all fun u => !Tryz.prog.wantsStandIn u) = true := by kernel_rfl
        exact (show Tryz.prog.wantsStandIn t = false by simpa using List.all_eq_true.1 hall t hm)⟩)
    (by kernel_rfl)
end spanBad
end Go.Proofs.YtildhhdbikpbaaaGreatDoor
