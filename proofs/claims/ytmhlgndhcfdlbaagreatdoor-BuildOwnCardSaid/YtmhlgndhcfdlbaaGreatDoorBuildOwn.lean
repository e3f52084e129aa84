/- A world, a manifest are not changed by List, Asks; what these told may be changed: for every world that Make makes and every manifest that Ask makes of it. No condition but the statement's own. -/
import Derived.Test.YtmhlgndhcfdlbaaGreatDoorV6
import Derived.Test.YtmhlgndhcfdlbaaGreatDoorV1
import Derived.Test.YtmhlgndhcfdlbaaGreatDoorRows
import Derived.Test.YtmhlgndhcfdlbaaGreatDoorTie
import Derived.Test.YtmhlgndhcfdlbaaGreatDoorCards
import Derived.Test.YtmhlgndhcfdlbaaGreatDoorV4
import Derived.WalkKit
import Derived.ProofKit
import Derived.OpenShut
import Derived.ShutString
import Derived.ChangeOld
import Derived.Below
import Derived.SizedLaws
import Derived.LaidMore
import Derived.Lay
import Derived.SevenTiedAt
import Derived.Stop.Joined
import Derived.KernelRfl
set_option linter.unusedSimpArgs false
/-! A world, a manifest are not changed; what was told may be. -/
namespace Go.Vx.Z
open Go Go.Vx
set_option linter.unusedVariables false
set_option maxRecDepth 100000
theorem own_built (w : List Mod) (rv : List Rev) (w' : List Mod) (rv' : List Rev) (md : ByteArray) (rq ex : List Req) (sw : List Swp) (md' : ByteArray) (rq' ex' : List Req) (sw' : List Swp) (l : List Blt) (hl : l.length ≤ big) :
    loop B9_0 (Int.ofNat 0, w, rv, w', rv', md, rq, ex, sw, md', rq', ex', sw', l, ()) = some (w, rv, w', rv', md, rq, ex, sw, md', rq', ex', sw', ()) := by
  obtain ⟨b, h1, _⟩ := loop_upto (B := B9_0) l.length (fun i (b : List Blt) => ((i : Int), w, rv, w', rv', md, rq, ex, sw, md', rq', ex', sw', b, ())) (fun _ => (w, rv, w', rv', md, rq, ex, sw, md', rq', ex', sw', ())) (fun i b => b.length = l.length) (by
    intro i hi b hb
    have hib : i < b.length := by omega
    rw [B9_0_eq, lt_in hib, ge_zero, at_in hib, wrap_next hib (by simp only [big] at hl; omega)]
    simp only [cond_true, Bool.and_self, Option.bind_some]
    exact ⟨_, rfl, by simp [hb]⟩) (by
    intro b hb
    simp only
    rw [B9_0_eq, ← hb, lt_out]; rfl) 0 l (by omega) rfl
  exact h1
theorem own_asked (x0 : Int) (hi : Nat) (w : List Mod) (rv : List Rev) (w' : List Mod) (rv' : List Rev) (md : ByteArray) (rq ex : List Req) (sw : List Swp) (md' : ByteArray) (rq' ex' : List Req) (sw' : List Swp) (l : List Req) (hl : hi ≤ l.length) (hb : l.length ≤ big) :
    loop B9_1 (x0, 0, hi, Int.ofNat 0, w, rv, w', rv', md, rq, ex, sw, md', rq', ex', sw', l, ()) = some (x0, w, rv, w', rv', md, rq, ex, sw, md', rq', ex', sw', ()) := by
  obtain ⟨b, h1, _⟩ := loop_upto (B := B9_1) hi (fun i (b : List Req) => (x0, 0, hi, (i : Int), w, rv, w', rv', md, rq, ex, sw, md', rq', ex', sw', b, ())) (fun _ => (x0, w, rv, w', rv', md, rq, ex, sw, md', rq', ex', sw', ())) (fun i b => b.length = l.length) (by
    intro i hi' b hb'
    have hib : i < b.length := by omega
    have hat : b[0 + Int.toNat (i : Int)]? = some b[i] := by rw [Nat.zero_add]; exact at_in hib
    rw [B9_1_eq, Nat.sub_zero, lt_in hi', ge_zero, hat, wrap_next hib (by simp only [big] at hb; omega)]
    simp only [cond_true, Bool.and_self, Option.bind_some]
    exact ⟨_, rfl, by simp [hb']⟩) (by
    intro b hb
    simp only
    rw [B9_1_eq, Nat.sub_zero, lt_out]; rfl) 0 l (by omega) rfl
  exact h1
theorem pure_BuildOwn (x0 : Int) (x1 x2 : List Int) (h0 : (Lit.int .i64 x0).wf = true) (h1 : ∀ x ∈ x1, (Lit.int .i64 x).wf = true) (h2 : ∀ x ∈ x2, (Lit.int .i64 x).wf = true) : F9 (x0, x1, x2, ()) = some (true, ()) := by
  obtain ⟨n, w, rv, g1, hM, hrv⟩ := F14_full x0 x1
  obtain ⟨md, rq, ex, sw, g2, hA, hD, hN, hmd, hasc⟩ := F15_is hM rv x2
  have hS := made_small hM
  have a1 := hA.rl
  have a2 := hA.el
  have a3 := hA.sl
  have hrq : ∀ r ∈ rq, okR r = true := fun r hr => (hA.rq r hr).1
  have hokS := small_ok ex sw w hS (by omega) (by omega)
  have hokD := made_okD hM (ex := ex) (by omega) (by omega) hmd
  obtain ⟨e, l, g3, hl, h⟩ := list_small md rq ex sw w rv hS (by omega) (by omega) (by omega) hrq
  have g4 := F22_is md rq ex sw w rv hS hokD (by omega) (by omega) (by omega) hrq hasc l e g3
  have g5 := F19o_is md rq ex sw w rv hS (by omega) (by omega) (by omega) hrq l e g3
  have hloop : loop B9_2 (Int.ofNat 0, w, rv, w, rv, md, rq, ex, sw, md, rq, ex, sw, ()) = some (w, rv, w, rv, md, rq, ex, sw, md, rq, ex, sw, ()) := by
    rw [show (Int.ofNat 0 : Int) = ((0 : Nat) : Int) from rfl]
    refine loop_row (B := B9_2) (fun i => ((i : Int), w, rv, w, rv, md, rq, ex, sw, md, rq, ex, sw, ())) rq.length (e := (w, rv, w, rv, md, rq, ex, sw, md, rq, ex, sw, ())) (fun i hi => ?_) (by
      simp only
      rw [B9_2_eq, lt_out]; rfl)
    obtain ⟨k, e', a, q1, q2, q3⟩ := F26o_is md rq ex sw w rv hokS rq[i]
    rw [B9_2_eq, lt_in hi, ge_zero, at_in hi]
    simp only [cond_true, Option.bind_some]
    rw [q1, Option.bind_some]
    simp only
    rw [own_asked (i : Int) k w rv w rv md rq ex sw md rq ex sw a q2 q3, Option.bind_some]
    simp only
    rw [wrap_next hi (by omega)]
  obtain ⟨l', q⟩ := F23o_self l hl
  rw [F9_eq, F13_is, Option.bind_some]
  simp only [Bool.not_true, cond_false]
  rw [g1, Option.bind_some]
  simp only [Option.bind_some]
  rw [g2]
  simp only [Option.bind_some]
  rw [g5]
  simp only [Option.bind_some]
  rw [own_built w rv w rv md rq ex sw md rq ex sw l hl]
  simp only [Option.bind_some]
  rw [hloop]
  simp only [Option.bind_some]
  rw [g5, g4]
  simp only [Option.bind_some]
  have hmods := hS.mods
  rw [F27_self w rv (by omega) (by omega) fun m hm => ⟨by have := hS.rels m hm; omega, fun y hy => by have := hS.reqs m hm y hy; omega⟩]
  simp only [Option.bind_some, cond_true]
  rw [F28_self md rq ex sw (by omega) (by omega) (by omega)]
  simp only [Option.bind_some, cond_true, beq_self_eq_true]
  rw [q]
  rfl
end Go.Vx.Z
namespace Go.Proofs.YtmhlgndhcfdlbaaGreatDoor
open Go Go.Vx Go.ChangeShapes Go.WideShapes Go.ChangeAt Go.RowKit
open Go.ChangeMaps (open_string shut_string)
set_option linter.unusedVariables false
namespace buildOwn
theorem own : ownKnob Tryz.prog.godebug = none := by kernel_rfl
theorem laidOut : laidOutB Tryz.prog = true := by kernel_rfl
set_option maxRecDepth 100000 in
theorem lifted (os : Os) (started : os.Started) (H : Type) (enc : TypeId × Value → H) :
    ReturnsInHanded {} Tryz.checked os 9 .any (fun w args => (Rows.buildOwnSpec.pre enc Tryz.prog Tryz.f9 Rows.buildOwnRow.domain false w args ∧ laidMetH Tryz.prog Rows.buildOwnRow.laid w) ∧ sizedMet enc Tryz.prog Tryz.f9 (OpenSpec.ofChange Rows.buildOwnSpec) false w args)
      (Rows.buildOwnSpec.post enc Tryz.prog Tryz.f9 false true false false) := by
  refine returnsInHanded_of_change_and (C := Tryz.checked) (X := fun w _ => laidMetH Tryz.prog Rows.buildOwnRow.laid w) (fun _ _ _ hh h => h.of_heap hh) own started (by kernel_rfl) Tryz.func9
    (ChangeSpec.witness_shaped (enc := enc) (C := Tryz.checked) (os := os) (X := fun w _ => laidMetH Tryz.prog Rows.buildOwnRow.laid w) false (World.laidAll Tryz.prog os Rows.buildOwnRow.laid) #[.int .i64 0, .slice none 0 0, .slice none 0 0] 8 (World.laidAll_os _ _ _)
      (World.shaped_of_ZipB (by kernel_rfl) (by kernel_rfl)) (by kernel_rfl) (by kernel_rfl) (by kernel_rfl)
      (by rw [MakeChecks.laidMetH_plain _ _ _ (by kernel_rfl)]; exact laidMet_laidAll _ (by kernel_rfl) (by kernel_rfl))) ?_
  intro W base args ds gs before hval0 hW hc hsz0 hL _
  have hsz : (DataW.weightsEach Tryz.prog (Tryz.f9.params.toList ++ Rows.buildOwnSpec.plain.varTypes Tryz.prog) (ds ++ gs)).all (· ≤ reachBytes) = true := hsz0
  have hval : ∀ (j : Nat) t v, Tryz.f9.params[j]? = some t → args[j]? = some v → Value.okWide Tryz.prog W .any base t v := hval0
  have hW' := hW
  obtain ⟨p, q, hA0, hV, rfl, hfz, hnd⟩ := hW
  have hA : DataW.TrodAll enc Tryz.prog W 0 (fun _ => true) true Tryz.f9.params.toList args.toList ds p := hA0
  rw [Tryz.params9] at hA hval hsz
  obtain ⟨v0, vs0, d0, ds0, p0, q0, hargs, rfl, rfl, h0, r0⟩ := trodAll_cons hA
  obtain ⟨v1, vs1, d1, ds1, p1, q1, rfl, rfl, rfl, h1, r1⟩ := trodAll_cons r0
  obtain ⟨v2, vs2, d2, ds2, p2, q2, rfl, rfl, rfl, h2, r2⟩ := trodAll_cons r1
  obtain ⟨rfl, rfl, rfl⟩ := trodAll_nil r2
  obtain rfl : args = #[v0, v1, v2] := by cases args; simp_all
  obtain ⟨rfl, rfl⟩ := trodVars_none hV
  obtain ⟨a0, rfl, rfl, rfl, w0⟩ := open_int Tryz.underlying3 (hval 0 3 v0 rfl rfl) h0
  obtain ⟨a1, len1, cap1, rfl⟩ := okWide_slice Tryz.underlying22 (hval 1 22 v1 rfl rfl)
  have k1 := h1
  have lt1 : ∀ x ∈ p1, x.block < W.heap.size := by obtain ⟨m, hm⟩ := k1; exact DataW.trod_lt m _ _ _ hm
  obtain ⟨z1, w1⟩ : ∃ zs, IsRow .i64 W a1 len1 cap1 zs := by
    obtain ⟨fuel, hf⟩ := h1
    rcases open_ints Tryz.underlying22 Tryz.underlying3 (by kernel_rfl) hf with ⟨hcs, _⟩ | ⟨x, l, c, zs, hcs, _, hl, hm, hz, _, hcell, hwz⟩
    · simp [Value.cells] at hcs
      obtain ⟨rfl, rfl, rfl⟩ := hcs
      exact ⟨[], .inl ⟨rfl, rfl, rfl, rfl⟩⟩
    · simp [Value.cells] at hcs
      obtain ⟨rfl, rfl, rfl⟩ := hcs
      exact ⟨zs, .inr ⟨_, rfl, hl, hm, by simpa using hz, hcell, hwz⟩⟩
  have wf1 : ∀ x ∈ z1.take len1, (Lit.int .i64 x).wf = true := by
    rcases w1 with ⟨_, _, _, rfl⟩ | ⟨_, _, _, _, _, _, hwf⟩
    · simp
    · exact fun x hx => hwf x (List.mem_of_mem_take hx)
  obtain ⟨a2, len2, cap2, rfl⟩ := okWide_slice Tryz.underlying22 (hval 2 22 v2 rfl rfl)
  have k2 := h2
  have lt2 : ∀ x ∈ p2, x.block < W.heap.size := by obtain ⟨m, hm⟩ := k2; exact DataW.trod_lt m _ _ _ hm
  obtain ⟨z2, w2⟩ : ∃ zs, IsRow .i64 W a2 len2 cap2 zs := by
    obtain ⟨fuel, hf⟩ := h2
    rcases open_ints Tryz.underlying22 Tryz.underlying3 (by kernel_rfl) hf with ⟨hcs, _⟩ | ⟨x, l, c, zs, hcs, _, hl, hm, hz, _, hcell, hwz⟩
    · simp [Value.cells] at hcs
      obtain ⟨rfl, rfl, rfl⟩ := hcs
      exact ⟨[], .inl ⟨rfl, rfl, rfl, rfl⟩⟩
    · simp [Value.cells] at hcs
      obtain ⟨rfl, rfl, rfl⟩ := hcs
      exact ⟨zs, .inr ⟨_, rfl, hl, hm, by simpa using hz, hcell, hwz⟩⟩
  have wf2 : ∀ x ∈ z2.take len2, (Lit.int .i64 x).wf = true := by
    rcases w2 with ⟨_, _, _, rfl⟩ | ⟨_, _, _, _, _, _, hwf⟩
    · simp
    · exact fun x hx => hwf x (List.mem_of_mem_take hx)
  clear hA0 hval0 hsz0 hsz
  have hst : ∀ y, (RowS a1 z1.length y ∨ RowS a2 z2.length y) → y.spot = none ∧ ∃ v, W.cell? y = some v := by
    intro y hy
    rcases hy with hy | hy
    · exact isRow_st w1 hy
    · exact isRow_st w2 hy
  refine (law_calls (Go.Vx.Z.ok9) rfl (enters_of Tryz.func9 (by kernel_rfl) rfl) (S := fun y => RowS a1 z1.length y ∨ RowS a2 z2.length y) hst (a0, (z1.take len1), (z2.take len2), ()) (Go.Vx.Z.pure_BuildOwn a0 (z1.take len1) (z2.take len2) w0 wf1 wf2) rfl (fun i => ?_)).mono fun e W' ⟨he, bel⟩ => ?_
  · match i with
    | 0 => exact rfl
    | 1 => exact isRow_rep w1 (fun y hy => .inl hy)
    | 2 => exact isRow_rep w2 (fun y hy => .inr (hy))
    | i + 3 => trivial
  subst he
  exact ⟨_, rfl, _, _, _, [], _, [], hW', trodAll_mk1 (shut_bool Tryz.underlying4 _), (trodAll_cons_mk (shut_int Tryz.underlying3 w0) (trodAll_cons_mk (Below.trod laidOut (by kernel_rfl) (of_decide_eq_true (by kernel_rfl)) k1 bel lt1) (trodAll_cons_mk (Below.trod laidOut (by kernel_rfl) (of_decide_eq_true (by kernel_rfl)) k2 bel lt2) trodAll_mk0))), rfl, bel.frame _, fun h => by cases h⟩
theorem holds : Rows.BuildOwnSaid :=
  OpenClaim.holds_of_wide 9 Tryz.f9 rfl rfl rfl rfl rfl rfl rfl ⟨rfl, rfl, rfl, rfl, rfl⟩ rfl rfl rfl rfl rfl (by kernel_rfl) Tryz.func9 (by kernel_rfl)
    (of_decide_eq_true (by kernel_rfl)) (by unfold Func.isWrapper; first | (rw [if_pos (by decide +kernel)]; kernel_rfl) | (rw [if_neg (by decide +kernel)]; exact ⟨rfl, rfl⟩))
    (fun os started H enc _ => lifted os started H enc)
theorem card_holds : Rows.BuildOwnCardSaid :=
  Claim7.holds_tied_plain_at .later [] [.data, .pinned] true (true, "d582014b3baee50914b0e50363f0aa1c829743198b04de7ea16a202eaefeca98") false holds (fun _ h => by cases h) (by kernel_rfl) (fun _ h => by cases h) buildOwn_row_tie rfl ⟨rfl, rfl⟩ (by kernel_rfl) rfl
    (fun f fn hf hfn => by
      obtain rfl : f = 9 := Option.some.inj ((show Tryz.prog.funcNamed "transhumance/transhumancelaw10.BuildOwn" = some 9 by kernel_rfl).symm.trans hf) |>.symm
      obtain rfl : fn = Tryz.f9 := (Option.some.inj (Tryz.func9.symm.trans hfn)).symm
      exact ⟨by kernel_rfl, fun j t ht => by
        rw [Tryz.params9] at ht
        have hm : t ∈ [3, 22, 22] := by simpa using Array.mem_of_getElem? ht
        have hall : ([3, 22, 22].all fun u => !Tryz.prog.wantsStandIn u) = true := by kernel_rfl
        exact (show Tryz.prog.wantsStandIn t = false by simpa using List.all_eq_true.1 hall t hm)⟩)
    (by kernel_rfl)
end buildOwn
end Go.Proofs.YtmhlgndhcfdlbaaGreatDoor
