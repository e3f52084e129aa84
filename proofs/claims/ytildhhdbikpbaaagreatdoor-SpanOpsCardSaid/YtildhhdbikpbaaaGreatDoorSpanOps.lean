/- Both, any, none of any spans that are made are the document's, and say what they should at each version; whatever the numbers. -/
import Derived.Test.YtildhhdbikpbaaaGreatDoorV7
import Derived.Test.YtildhhdbikpbaaaGreatDoorV2
import Derived.Test.YtildhhdbikpbaaaGreatDoorRows
import Derived.Test.YtildhhdbikpbaaaGreatDoorTie
import Derived.Test.YtildhhdbikpbaaaGreatDoorCards
import Derived.Test.YtildhhdbikpbaaaGreatDoorV5
import Derived.WalkKit
import Derived.ProofKit
import Derived.OpenShut
import Derived.ShutString
import Derived.ChangeOld
import Derived.Below
import Derived.SizedLaws
import Derived.LaidMore
import Derived.Lay
import Derived.SevenTiedAt
import Derived.Stop.Joined
import Derived.KernelRfl
set_option linter.unusedSimpArgs false
/-! SpanOps -/
namespace Go.Vx.Z
open Go Go.Vx
set_option linter.unusedVariables false
set_option maxRecDepth 100000
theorem obs {α β : Type} (x : α) (f : α → Option β) : Option.bind (some x) f = f x := by
  have h : ∀ o : Option α, o = some x → o.bind f = f x := by
    intro o ho
    subst ho
    rfl
  exact h _ rfl
theorem or3_says (a b c : List Span) (ha : Nrm a) (hb : Nrm b) (hc : Nrm c) (hl : a.length + b.length + c.length ≤ 1000000) : ∃ R, F17 ([a, b, c], ()) = some (R, ()) ∧ Nrm R ∧ (∀ x, den R x ↔ den a x ∨ den b x ∨ den c x) ∧ R.length ≤ a.length + b.length + c.length := by
  have e : [a, b, c].flatten = a ++ (b ++ c) := by simp
  obtain ⟨R, h1, h2, h3, h4⟩ := or_says [a, b, c] (fun s hs => by
    rw [e] at hs
    rcases List.mem_append.1 hs with h | h
    · exact nrm_ok ha s h
    · rcases List.mem_append.1 h with h | h
      · exact nrm_ok hb s h
      · exact nrm_ok hc s h) (by rw [e, List.length_append, List.length_append]; simp only [big]; omega) (by show 3 ≤ big; decide)
  rw [e] at h3 h4
  exact ⟨R, h1, h2, fun x => by rw [h3, den_append, den_append], by simpa [Nat.add_assoc] using h4⟩
theorem B23_is (l : List Span) (hok : ∀ s ∈ l, okS s = true) (hl : l.length ≤ 1000) : ∀ (d i : Nat) (ps : List Ver), l.length - i = d → i ≤ l.length → ps.length ≤ 4 + 4 * i → (∀ p ∈ ps, okV p = true) →
    ∃ qs : List Ver, loop B23_0 (l, (i : Int), ps, ()) = some (qs, ()) ∧ qs.length ≤ 4 + 4 * l.length ∧ ∀ p ∈ qs, okV p = true
  | 0, i, ps, hd, hi, hp, hq => by
    obtain rfl : i = l.length := by omega
    refine ⟨ps, loop_end ?_, hp, hq⟩
    rw [B23_0_eq]
    simp only [lt_out, cond_false]
  | d + 1, i, ps, hd, hi, hp, hq => by
    have h : i < l.length := by omega
    have hs := hok _ (List.getElem_mem h)
    simp only [okS, Bool.and_eq_true] at hs
    have h4 : ∀ a b c e : R5, decide (ps.length + [a, b, c, e].length ≤ 3518437208883) = true := fun a b c e => decide_eq_true (by simp only [List.length_cons, List.length_nil]; omega)
    obtain ⟨qs, q1, q2, q3⟩ := B23_is l hok hl d (i + 1) (ps ++ [l[i].lo, l[i].hi, (l[i].1, l[i].2.1, l[i].2.2.1, lit [], ()), (l[i].2.2.2.2.1, l[i].2.2.2.2.2.1, l[i].2.2.2.2.2.2.1, lit [48], ())]) (by omega) h (by simp; omega) (fun p hp' => by
      rcases List.mem_append.1 hp' with h | h
      · exact hq p h
      · simp only [List.mem_cons, List.not_mem_nil, or_false] at h
        rcases h with rfl | rfl | rfl | rfl
        · exact hs.1
        · exact hs.2
        · rfl
        · rfl)
    refine ⟨qs, loop_step ?_ q1, q2, q3⟩
    rw [B23_0_eq]
    simp only [lt_in h, cond_true, ge_zero, at_in h, Option.bind_some, h4, wrap_next h (show l.length ≤ _ by omega)]
    rfl
theorem F23_is (l : List Span) (hok : ∀ s ∈ l, okS s = true) (hl : l.length ≤ 1000) (n m : Int) : ∃ qs : List Ver, F23 (l, n, m, ()) = some (qs, ()) ∧ qs.length ≤ 4 + 4 * l.length ∧ ∀ p ∈ qs, okV p = true := by
  obtain ⟨u, h1, hu⟩ := F32_is n m
  obtain ⟨qs, q1, q2, q3⟩ := B23_is l hok hl _ 0 [u, least, (0, 0, 0, lit [], ()), (999999, 999999, 999999, lit [], ())] rfl (Nat.zero_le _) (by simp) (fun p hp => by
    simp only [List.mem_cons, List.not_mem_nil, or_false] at hp
    rcases hp with rfl | rfl | rfl | rfl
    · exact okMk_V hu
    · rfl
    · rfl
    · rfl)
  refine ⟨qs, ?_, q2, q3⟩
  rw [F23_eq, h1, Option.bind_some, F27_eq, Option.bind_some]
  have q1' : loop B23_0 (l, Int.ofNat 0, [(u.1, u.2.1, u.2.2.1, u.2.2.2.1, ()), (Int.ofNat 0, Int.ofNat 0, Int.ofNat 0, lit [48], ()), (Int.ofNat 0, Int.ofNat 0, Int.ofNat 0, lit [], ()), (Int.ofNat 999999, Int.ofNat 999999, Int.ofNat 999999, lit [], ())], ()) = some (qs, ()) := q1
  rw [q1']
  rfl
def hv (L : List Span) (p : Ver) : Bool := hasK (L.map kOf) (ptV p)
theorem hv_den {L : List Span} {p : Ver} : hv L p = true ↔ den L (ptV p) := hasK_mem
theorem ops_step (a b c x y z : List Span) (ps : List Ver) (hp : ∀ p ∈ ps, okV p = true) (hps : ps.length ≤ big) (ha : Nrm a) (hb : Nrm b) (hc : Nrm c) (hx : Nrm x) (hy : Nrm y) (hz : Nrm z) (la : a.length ≤ big) (lb : b.length ≤ big) (lc : c.length ≤ big) (lx : x.length ≤ big) (ly : y.length ≤ big) (lz : z.length ≤ big)
    (dx : ∀ p, den x p ↔ den a p ∧ den b p) (dy : ∀ p, den y p ↔ den a p ∨ den b p ∨ den c p) (dz : ∀ p, den z p ↔ pBeg ≤ p ∧ p < pEnd ∧ ¬ den a p) (i : Nat) (h : i < ps.length) :
    B3_0 (a, b, c, x, y, z, ps, (i : Int), ()) = some (.inl (a, b, c, x, y, z, ps, ((i + 1 : Nat) : Int), ())) := by
  have hv1 := hp _ (List.getElem_mem h)
  rw [B3_0_eq]
  simp only [lt_in h, cond_true, ge_zero, at_in h, obs, wrap_next h (show ps.length ≤ _ by simp only [big] at hps; omega)]
  generalize ps[i] = p at *
  have fa : F24 (a, p.1, p.2.1, p.2.2.1, p.2.2.2.1, ()) = some (hv a p, ()) := F24_is a p (nrm_ok ha) hv1 la
  have fb : F24 (b, p.1, p.2.1, p.2.2.1, p.2.2.2.1, ()) = some (hv b p, ()) := F24_is b p (nrm_ok hb) hv1 lb
  have fc : F24 (c, p.1, p.2.1, p.2.2.1, p.2.2.2.1, ()) = some (hv c p, ()) := F24_is c p (nrm_ok hc) hv1 lc
  have fx : F24 (x, p.1, p.2.1, p.2.2.1, p.2.2.2.1, ()) = some (hv x p, ()) := F24_is x p (nrm_ok hx) hv1 lx
  have fy : F24 (y, p.1, p.2.1, p.2.2.1, p.2.2.2.1, ()) = some (hv y p, ()) := F24_is y p (nrm_ok hy) hv1 ly
  have fz : F24 (z, p.1, p.2.1, p.2.2.1, p.2.2.2.1, ()) = some (hv z p, ()) := F24_is z p (nrm_ok hz) hv1 lz
  have ra : F25 (a, p.1, p.2.1, p.2.2.1, p.2.2.2.1, ()) = some (hv a p, ()) := F25_is a p (nrm_ok ha) hv1 la
  have rc : F26 (p.1, p.2.1, p.2.2.1, p.2.2.2.1, Int.ofNat 0, Int.ofNat 0, Int.ofNat 0, lit [48], ()) = some (cmpV p least, ()) := F26_is p least hv1 rfl
  have ex : hv x p = (hv a p && hv b p) := by
    rw [Bool.eq_iff_iff, Bool.and_eq_true, hv_den, hv_den, hv_den]; exact dx _
  have ey : hv y p = (hv a p || (hv b p || hv c p)) := by
    rw [Bool.eq_iff_iff, Bool.or_eq_true, Bool.or_eq_true, hv_den, hv_den, hv_den, hv_den]; exact dy _
  have ez : decide (cmpV p least ≥ Int.ofNat 0) = true → hv z p = !hv a p := fun hge => by
    have hge : (0 : Int) ≤ cmpV p least := of_decide_eq_true hge
    rw [Bool.eq_iff_iff, Bool.not_eq_true', ← Bool.not_eq_true, hv_den, hv_den, dz]
    have h1 : pBeg ≤ ptV p := pBeg_le false (by rw [cmpV_swap p least]; omega)
    have h2 : ptV p < pEnd := lt_end p false
    exact ⟨fun h => h.2.2, fun h => ⟨h1, h2, h⟩⟩
  have f27 : F27 () = some (Int.ofNat 0, Int.ofNat 0, Int.ofNat 0, lit [48], ()) := F27_eq
  simp only [fa, fb, fc, fx, fy, fz, ra, f27, rc, obs, ex, ey]
  generalize hqz : hv z p = qz at *
  generalize decide (cmpV p least ≥ Int.ofNat 0) = cc at *
  generalize (p.1 == Int.ofNat 0 && (p.2.1 == Int.ofNat 0 && (p.2.2.1 == Int.ofNat 0 && bl p.2.2.2.1 == []))) = e0
  cases cc with
  | true =>
    have := ez rfl
    subst this
    cases hv a p <;> cases hv b p <;> cases hv c p <;> cases e0 <;> rfl
  | false => cases hv a p <;> cases hv b p <;> cases hv c p <;> cases qz <;> cases e0 <;> rfl
theorem pure_SpanOps (x0 x1 x2 : List Int) (x3 x4 : Int) (h0 : ∀ x ∈ x0, (Lit.int .i64 x).wf = true) (h1 : ∀ x ∈ x1, (Lit.int .i64 x).wf = true) (h2 : ∀ x ∈ x2, (Lit.int .i64 x).wf = true) (h3 : (Lit.int .i64 x3).wf = true) (h4 : (Lit.int .i64 x4).wf = true) : F3 (x0, x1, x2, x3, x4, ()) = some (true, ()) := by
  obtain ⟨a, fa, na, ra, la, _⟩ := make_is x0
  obtain ⟨b, fb, nb, rb, lb, _⟩ := make_is x1
  obtain ⟨c, fc, nc, rc, lc, _⟩ := make_is x2
  obtain ⟨x, fx, nx, dx, lx⟩ := and_says a b na nb (by omega) (by omega)
  have lx' : x.length ≤ 36 := Nat.le_trans lx (Nat.mul_le_mul la lb)
  obtain ⟨y, fy, ny, dy, ly⟩ := or3_says a b c na nb nc (by omega)
  obtain ⟨z, fz, nz, rz, dz, lz⟩ := not_says a na ra (by simp only [big]; omega)
  obtain ⟨X, fX, nX, dX⟩ := rand_says a b na nb ra rb (by simp only [big]; omega)
  obtain ⟨ab, fab, nab, dab, lab⟩ := ror_says a b (nrm_ok na) (nrm_ok nb) (by simp only [big]; omega)
  obtain ⟨Y, fY, nY, dY, lY⟩ := ror_says ab c (nrm_ok nab) (nrm_ok nc) (by simp only [big]; omega)
  obtain ⟨Z, fZ, nZ, rZ, dZ, lZ⟩ := rnot_says a na ra (by simp only [big]; omega)
  have c1 : x = X := nrm_uniq nx nX fun p => by rw [dx, dX]
  have c2 : y = Y := nrm_uniq ny nY fun p => by rw [dy, dY, dab, or_assoc]
  have c3 : z = Z := nrm_uniq nz nZ fun p => by rw [dz, dZ]
  rw [F3_eq]
  simp only [fa, fb, fc, fx, fy, fz, fX, fab, fY, fZ, Option.bind_some]
  rw [same_is (by omega) c1, Option.bind_some, same_is (by omega) c2, Option.bind_some, same_is (by omega) c3, Option.bind_some]
  have e1 : decide (0 + a.length ≤ 1599289640401) = true := decide_eq_true (by omega)
  have e2 : decide ((([] : List Span) ++ a).length + b.length ≤ 1599289640401) = true := decide_eq_true (by rw [List.nil_append]; omega)
  simp only [Bool.not_true, cond_false, e1, e2, cond_true]
  obtain ⟨ps, q1, q2, q3⟩ := F23_is (a ++ b) (fun s hs => by
    rcases List.mem_append.1 hs with h | h
    · exact nrm_ok na s h
    · exact nrm_ok nb s h) (by simp; omega) x3 x4
  rw [List.length_append] at q2
  rw [List.nil_append, q1, Option.bind_some]
  have hb : big = 1099511627776 := rfl
  have := loop_row (B := B3_0) (fun i => (a, b, c, x, y, z, ps, (i : Int), ())) ps.length (e := .inr ()) (fun i hi => ops_step a b c x y z ps q3 (by omega) na nb nc nx ny nz (by omega) (by omega) (by omega) (by omega) (by omega) (by omega) dx dy dz i hi) (by
    rw [B3_0_eq]
    simp only [lt_out, cond_false])
  have h0' : loop B3_0 (a, b, c, x, y, z, ps, Int.ofNat 0, ()) = some (.inr ()) := this
  rw [h0']
  rfl
end Go.Vx.Z
namespace Go.Proofs.YtildhhdbikpbaaaGreatDoor
open Go Go.Vx Go.ChangeShapes Go.WideShapes Go.ChangeAt Go.RowKit
open Go.ChangeMaps (open_string shut_string)
set_option linter.unusedVariables false
namespace spanOps
theorem own : ownKnob Tryz.prog.godebug = none := by kernel_rfl
theorem laidOut : laidOutB Tryz.prog = true := by kernel_rfl
set_option maxRecDepth 100000 in
theorem lifted (os : Os) (started : os.Started) (H : Type) (enc : TypeId × Value → H) :
    ReturnsInHanded {} Tryz.checked os 3 .any (fun w args => (Rows.spanOpsSpec.pre enc Tryz.prog Tryz.f3 Rows.spanOpsRow.domain false w args ∧ laidMetH Tryz.prog Rows.spanOpsRow.laid w) ∧ sizedMet enc Tryz.prog Tryz.f3 (OpenSpec.ofChange Rows.spanOpsSpec) false w args)
      (Rows.spanOpsSpec.post enc Tryz.prog Tryz.f3 false true false false) := by
  refine returnsInHanded_of_change_and (C := Tryz.checked) (X := fun w _ => laidMetH Tryz.prog Rows.spanOpsRow.laid w) (fun _ _ _ hh h => h.of_heap hh) own started (by kernel_rfl) Tryz.func3
    (ChangeSpec.witness_shaped (enc := enc) (C := Tryz.checked) (os := os) (X := fun w _ => laidMetH Tryz.prog Rows.spanOpsRow.laid w) false (World.laidAll Tryz.prog os Rows.spanOpsRow.laid) #[.slice none 0 0, .slice none 0 0, .slice none 0 0, .int .i64 0, .int .i64 0] 8 (World.laidAll_os _ _ _)
      (World.shaped_of_ZipB (by kernel_rfl) (by kernel_rfl)) (by kernel_rfl) (by kernel_rfl) (by kernel_rfl)
      (by rw [MakeChecks.laidMetH_plain _ _ _ (by kernel_rfl)]; exact laidMet_laidAll _ (by kernel_rfl) (by kernel_rfl))) ?_
  intro W base args ds gs before hval0 hW hc hsz0 hL _
  have hsz : (DataW.weightsEach Tryz.prog (Tryz.f3.params.toList ++ Rows.spanOpsSpec.plain.varTypes Tryz.prog) (ds ++ gs)).all (· ≤ reachBytes) = true := hsz0
  have hval : ∀ (j : Nat) t v, Tryz.f3.params[j]? = some t → args[j]? = some v → Value.okWide Tryz.prog W .any base t v := hval0
  have hW' := hW
  obtain ⟨p, q, hA0, hV, rfl, hfz, hnd⟩ := hW
  have hA : DataW.TrodAll enc Tryz.prog W 0 (fun _ => true) true Tryz.f3.params.toList args.toList ds p := hA0
  rw [Tryz.params3] at hA hval hsz
  obtain ⟨v0, vs0, d0, ds0, p0, q0, hargs, rfl, rfl, h0, r0⟩ := trodAll_cons hA
  obtain ⟨v1, vs1, d1, ds1, p1, q1, rfl, rfl, rfl, h1, r1⟩ := trodAll_cons r0
  obtain ⟨v2, vs2, d2, ds2, p2, q2, rfl, rfl, rfl, h2, r2⟩ := trodAll_cons r1
  obtain ⟨v3, vs3, d3, ds3, p3, q3, rfl, rfl, rfl, h3, r3⟩ := trodAll_cons r2
  obtain ⟨v4, vs4, d4, ds4, p4, q4, rfl, rfl, rfl, h4, r4⟩ := trodAll_cons r3
  obtain ⟨rfl, rfl, rfl⟩ := trodAll_nil r4
  obtain rfl : args = #[v0, v1, v2, v3, v4] := by cases args; simp_all
  obtain ⟨rfl, rfl⟩ := trodVars_none hV
  obtain ⟨a0, len0, cap0, rfl⟩ := okWide_slice Tryz.underlying22 (hval 0 22 v0 rfl rfl)
  have k0 := h0
  have lt0 : ∀ x ∈ p0, x.block < W.heap.size := by obtain ⟨m, hm⟩ := k0; exact DataW.trod_lt m _ _ _ hm
  obtain ⟨z0, w0⟩ : ∃ zs, IsRow .i64 W a0 len0 cap0 zs := by
    obtain ⟨fuel, hf⟩ := h0
    rcases open_ints Tryz.underlying22 Tryz.underlying3 (by kernel_rfl) hf with ⟨hcs, _⟩ | ⟨x, l, c, zs, hcs, _, hl, hm, hz, _, hcell, hwz⟩
    · simp [Value.cells] at hcs
      obtain ⟨rfl, rfl, rfl⟩ := hcs
      exact ⟨[], .inl ⟨rfl, rfl, rfl, rfl⟩⟩
    · simp [Value.cells] at hcs
      obtain ⟨rfl, rfl, rfl⟩ := hcs
      exact ⟨zs, .inr ⟨_, rfl, hl, hm, by simpa using hz, hcell, hwz⟩⟩
  have wf0 : ∀ x ∈ z0.take len0, (Lit.int .i64 x).wf = true := by
    rcases w0 with ⟨_, _, _, rfl⟩ | ⟨_, _, _, _, _, _, hwf⟩
    · simp
    · exact fun x hx => hwf x (List.mem_of_mem_take hx)
  obtain ⟨a1, len1, cap1, rfl⟩ := okWide_slice Tryz.underlying22 (hval 1 22 v1 rfl rfl)
  have k1 := h1
  have lt1 : ∀ x ∈ p1, x.block < W.heap.size := by obtain ⟨m, hm⟩ := k1; exact DataW.trod_lt m _ _ _ hm
  obtain ⟨z1, w1⟩ : ∃ zs, IsRow .i64 W a1 len1 cap1 zs := by
    obtain ⟨fuel, hf⟩ := h1
    rcases open_ints Tryz.underlying22 Tryz.underlying3 (by kernel_rfl) hf with ⟨hcs, _⟩ | ⟨x, l, c, zs, hcs, _, hl, hm, hz, _, hcell, hwz⟩
    · simp [Value.cells] at hcs
      obtain ⟨rfl, rfl, rfl⟩ := hcs
      exact ⟨[], .inl ⟨rfl, rfl, rfl, rfl⟩⟩
    · simp [Value.cells] at hcs
      obtain ⟨rfl, rfl, rfl⟩ := hcs
      exact ⟨zs, .inr ⟨_, rfl, hl, hm, by simpa using hz, hcell, hwz⟩⟩
  have wf1 : ∀ x ∈ z1.take len1, (Lit.int .i64 x).wf = true := by
    rcases w1 with ⟨_, _, _, rfl⟩ | ⟨_, _, _, _, _, _, hwf⟩
    · simp
    · exact fun x hx => hwf x (List.mem_of_mem_take hx)
  obtain ⟨a2, len2, cap2, rfl⟩ := okWide_slice Tryz.underlying22 (hval 2 22 v2 rfl rfl)
  have k2 := h2
  have lt2 : ∀ x ∈ p2, x.block < W.heap.size := by obtain ⟨m, hm⟩ := k2; exact DataW.trod_lt m _ _ _ hm
  obtain ⟨z2, w2⟩ : ∃ zs, IsRow .i64 W a2 len2 cap2 zs := by
    obtain ⟨fuel, hf⟩ := h2
    rcases open_ints Tryz.underlying22 Tryz.underlying3 (by kernel_rfl) hf with ⟨hcs, _⟩ | ⟨x, l, c, zs, hcs, _, hl, hm, hz, _, hcell, hwz⟩
    · simp [Value.cells] at hcs
      obtain ⟨rfl, rfl, rfl⟩ := hcs
      exact ⟨[], .inl ⟨rfl, rfl, rfl, rfl⟩⟩
    · simp [Value.cells] at hcs
      obtain ⟨rfl, rfl, rfl⟩ := hcs
      exact ⟨zs, .inr ⟨_, rfl, hl, hm, by simpa using hz, hcell, hwz⟩⟩
  have wf2 : ∀ x ∈ z2.take len2, (Lit.int .i64 x).wf = true := by
    rcases w2 with ⟨_, _, _, rfl⟩ | ⟨_, _, _, _, _, _, hwf⟩
    · simp
    · exact fun x hx => hwf x (List.mem_of_mem_take hx)
  obtain ⟨a3, rfl, rfl, rfl, w3⟩ := open_int Tryz.underlying3 (hval 3 3 v3 rfl rfl) h3
  obtain ⟨a4, rfl, rfl, rfl, w4⟩ := open_int Tryz.underlying3 (hval 4 3 v4 rfl rfl) h4
  clear hA0 hval0 hsz0 hsz
  have hst : ∀ y, (RowS a0 z0.length y ∨ RowS a1 z1.length y ∨ RowS a2 z2.length y) → y.spot = none ∧ ∃ v, W.cell? y = some v := by
    intro y hy
    rcases hy with hy | hy | hy
    · exact isRow_st w0 hy
    · exact isRow_st w1 hy
    · exact isRow_st w2 hy
  have hL1 : laidMet Tryz.prog Rows.spanOpsRow.laid W := by rw [← MakeChecks.laidMetH_plain _ _ _ (by kernel_rfl)]; exact hL
  have hG := ground_of_laid hL1 (List.mem_cons_of_mem _ (List.mem_cons_of_mem _ List.mem_cons_self)) (by kernel_rfl) (g := 1) (t := 193) (n := 20) (e := 153) (by kernel_rfl) (by kernel_rfl) Tryz.underlying193 Tryz.underlying153 (by kernel_rfl) (by kernel_rfl)
  refine (law_calls (Go.Vx.Z.ok3) rfl (enters_of Tryz.func3 (by kernel_rfl) rfl) hG.1 hG.2 (S := fun y => RowS a0 z0.length y ∨ RowS a1 z1.length y ∨ RowS a2 z2.length y) hst ((z0.take len0), (z1.take len1), (z2.take len2), a3, a4, ()) (Go.Vx.Z.pure_SpanOps (z0.take len0) (z1.take len1) (z2.take len2) a3 a4 wf0 wf1 wf2 w3 w4) rfl (fun i => ?_)).mono fun e W' ⟨he, bel⟩ => ?_
  · match i with
    | 0 => exact isRow_rep w0 (fun y hy => .inl hy)
    | 1 => exact isRow_rep w1 (fun y hy => .inr (.inl hy))
    | 2 => exact isRow_rep w2 (fun y hy => .inr (.inr (hy)))
    | 3 => exact rfl
    | 4 => exact rfl
    | i + 5 => trivial
  subst he
  exact ⟨_, rfl, _, _, _, [], _, [], hW', trodAll_mk1 (shut_bool Tryz.underlying4 _), (trodAll_cons_mk (Below.trod laidOut (by kernel_rfl) (of_decide_eq_true (by kernel_rfl)) k0 bel lt0) (trodAll_cons_mk (Below.trod laidOut (by kernel_rfl) (of_decide_eq_true (by kernel_rfl)) k1 bel lt1) (trodAll_cons_mk (Below.trod laidOut (by kernel_rfl) (of_decide_eq_true (by kernel_rfl)) k2 bel lt2) (trodAll_cons_mk (shut_int Tryz.underlying3 w3) (trodAll_cons_mk (shut_int Tryz.underlying3 w4) trodAll_mk0))))), rfl, bel.frame _, fun h => by cases h⟩
theorem holds : Rows.SpanOpsSaid :=
  OpenClaim.holds_of_wide 3 Tryz.f3 rfl rfl rfl rfl rfl rfl rfl ⟨rfl, rfl, rfl, rfl, rfl⟩ rfl rfl rfl rfl rfl (by kernel_rfl) Tryz.func3 (by kernel_rfl)
    (of_decide_eq_true (by kernel_rfl)) (by unfold Func.isWrapper; first | (rw [if_pos (by decide +kernel)]; kernel_rfl) | (rw [if_neg (by decide +kernel)]; exact ⟨rfl, rfl⟩))
    (fun os started H enc _ => lifted os started H enc)
theorem card_holds : Rows.SpanOpsCardSaid :=
  Claim7.holds_tied_plain_at .later [] [.data, .data, .data, .data, .pinned] true (true, "677dda388697c3be81f00c8f3e7162a91e326615aec89fc25f0adc6f7f408f5b") false holds (fun _ h => by cases h) (by kernel_rfl) (fun _ h => by cases h) spanOps_row_tie rfl ⟨rfl, rfl⟩ (by kernel_rfl) rfl
    (fun f fn hf hfn => by
      obtain rfl : f = 3 := Option.some.inj ((show Tryz.prog.funcNamed "transhumance/transhumancelaw3.SpanOps" = some 3 by kernel_rfl).symm.trans hf) |>.symm
      obtain rfl : fn = Tryz.f3 := (Option.some.inj (Tryz.func3.symm.trans hfn)).symm
      exact ⟨by kernel_rfl, fun j t ht => by
        rw [Tryz.params3] at ht
        have hm : t ∈ [22, 22, 22, 3, 3] := by simpa using Array.mem_of_getElem? ht
        have hall : ([22, 22, 22, 3, 3].all fun u => !Tryz.prog.wantsStandIn u) = true := by kernel_rfl
        exact (show Tryz.prog.wantsStandIn t = false by simpa using List.all_eq_true.1 hall t hm)⟩)
    (by kernel_rfl)
end spanOps
end Go.Proofs.YtildhhdbikpbaaaGreatDoor
