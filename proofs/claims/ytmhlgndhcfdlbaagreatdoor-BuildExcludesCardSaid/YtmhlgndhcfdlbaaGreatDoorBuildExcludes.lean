/- Nothing that is excluded is built; the next one below it is asked for instead, or it is gone: for every world that Make makes, each module and release of it, however many below are excluded. No condition but the statement's own. -/
import Derived.Test.YtmhlgndhcfdlbaaGreatDoorV9
import Derived.Test.YtmhlgndhcfdlbaaGreatDoorV1
import Derived.Test.YtmhlgndhcfdlbaaGreatDoorRows
import Derived.Test.YtmhlgndhcfdlbaaGreatDoorTie
import Derived.Test.YtmhlgndhcfdlbaaGreatDoorCards
import Derived.Test.YtmhlgndhcfdlbaaGreatDoorV4
import Derived.WalkKit
import Derived.ProofKit
import Derived.OpenShut
import Derived.ShutString
import Derived.ChangeOld
import Derived.Below
import Derived.SizedLaws
import Derived.LaidMore
import Derived.Lay
import Derived.SevenTiedAt
import Derived.Stop.Joined
import Derived.KernelRfl
set_option linter.unusedSimpArgs false
/-! Nothing that is excluded is built; the next one below it is asked for instead, or it is gone. -/
namespace Go.Vx.Z
open Go Go.Vx
set_option linter.unusedVariables false
set_option maxRecDepth 100000
theorem excl_loop (k j s : Nat) (hk : k ≤ 100) (hs : s ≤ k + 1) (w : List Mod) (rv : List Rev) (p : ByteArray) (rl : List Rel) (hkl : k < rl.length) (md : ByteArray) (rq : List Req) :
    ∃ ex : List Req, loop B4_0 ((k : Int), (j : Int), (s : Int), w, rv, p, rl, md, rq, [], ()) = some ((k : Int), (j : Int), w, rv, p, rl, md, rq, ex, ()) ∧ ex.length ≤ 101 ∧ ∀ z, z ∈ ex ↔ ∃ (t : Nat) (ht : t < rl.length), s ≤ t ∧ t < k + 1 ∧ z = (p, rl[t].v) := by
  obtain ⟨ex, h1, h2, h4, h3⟩ := loop_upto (B := B4_0) (k + 1) (fun i (b : List Req) => ((k : Int), (j : Int), (i : Int), w, rv, p, rl, md, rq, b, ())) (fun b => ((k : Int), (j : Int), w, rv, p, rl, md, rq, b, ())) (fun i b => b.length ≤ i ∧ s ≤ i ∧ ∀ z, z ∈ b ↔ ∃ (t : Nat) (ht : t < rl.length), s ≤ t ∧ t < i ∧ z = (p, rl[t].v)) (by
      rintro i hi b ⟨q1, q3, q2⟩
      have hil : i < rl.length := by omega
      have e1 : decide ((i : Int) ≤ (k : Int)) = true := by simp; omega
      have e2 : ∀ z : Req, decide (b.length + [z].length ≤ 2513169434916) = true := by
        intro z; rw [decide_eq_true_eq]; simp only [List.length_cons, List.length_nil]; omega
      rw [B4_0_eq, e1, ge_zero, at_in hil, wrap_next hi (by omega)]
      simp only [cond_true, Option.bind_some]
      rw [e2]
      refine ⟨b ++ [(p, rl[i].v)], rfl, by simp; omega, by omega, fun z => ?_⟩
      rw [List.mem_append, q2 z, List.mem_singleton]
      constructor
      · rintro (⟨t, ht, h5, h6, h7⟩ | h)
        · exact ⟨t, ht, h5, by omega, h7⟩
        · exact ⟨i, hil, q3, by omega, h⟩
      · rintro ⟨t, ht, h5, h6, h7⟩
        by_cases hti : t = i
        · subst hti; exact .inr h7
        · exact .inl ⟨t, ht, h5, by omega, h7⟩) (by
      rintro b ⟨q1, q2⟩
      have e1 : decide (((k + 1 : Nat) : Int) ≤ (k : Int)) = false := by simp; omega
      simp only
      rw [B4_0_eq, e1]
      rfl) s [] hs ⟨by simp, Nat.le_refl _, fun z => ⟨fun h => by simp at h, fun ⟨t, ht, h5, h6, _⟩ => by omega⟩⟩
  exact ⟨ex, h1, by omega, h3⟩
theorem pure_BuildExcludes (x0 : Int) (x1 : List Int) (x2 x3 : Int) (h0 : (Lit.int .i64 x0).wf = true) (h1 : ∀ x ∈ x1, (Lit.int .i64 x).wf = true) (h2 : (Lit.int .i64 x2).wf = true) (h3 : (Lit.int .i64 x3).wf = true) : F4 (x0, x1, x2, x3, ()) = some (true, ()) := by
  obtain ⟨n, w, rv, g1, hM⟩ := F14_is x0 x1
  have hS := made_small hM
  have hwl : w.length = n := hM.len
  have hn := hM.pos
  have hn7 := hM.le
  obtain ⟨i, hi, hi2⟩ := F16_is x2 w.length (by omega) (by omega)
  have hi2' : F16 (x2, Int.ofNat w.length, ()) = some ((i : Int), ()) := hi2
  rw [F4_eq, F13_is, Option.bind_some]
  simp only [Bool.not_true, cond_false]
  rw [g1, Option.bind_some]
  simp only
  rw [hi2', Option.bind_some]
  simp only
  rw [ge_zero, at_in hi]
  simp only [cond_true, Option.bind_some]
  have hm : w[i] ∈ w := List.getElem_mem hi
  revert hm
  generalize w[i] = m
  intro hm
  obtain ⟨hr0, hr6⟩ := rels_pos hM hm
  obtain ⟨k, hk, hk2⟩ := F16_is (IntKind.wrap IntKind.i64 (Int.tdiv x2 (Int.ofNat 7))) m.2.1.length (by omega) (by omega)
  have hk2' : F16 (IntKind.wrap IntKind.i64 (Int.tdiv x2 (Int.ofNat 7)), Int.ofNat m.2.1.length, ()) = some ((k : Int), ()) := hk2
  rw [hk2', Option.bind_some]
  simp only
  rw [ge_zero, at_in hk]
  simp only [cond_true, Option.bind_some]
  have hw2 : IntKind.wrap IntKind.i64 ((k : Int) + Int.ofNat 2) = ((k + 2 : Nat) : Int) := by
    rw [wrap64 (by simp; omega) (by simp; omega)]; simp
  obtain ⟨j, hj, hj2⟩ := F16_is x3 (k + 2) (by omega) (by omega)
  rw [hw2, hj2, Option.bind_some]
  simp only
  have hst : (bif decide (IntKind.wrap IntKind.i64 (IntKind.wrap IntKind.i64 ((k : Int) - (j : Int)) + Int.ofNat 1) > Int.ofNat 0) then IntKind.wrap IntKind.i64 (IntKind.wrap IntKind.i64 ((k : Int) - (j : Int)) + Int.ofNat 1) else Int.ofNat 0) = ((k + 1 - j : Nat) : Int) := by
    have e1 : IntKind.wrap IntKind.i64 (IntKind.wrap IntKind.i64 ((k : Int) - (j : Int)) + Int.ofNat 1) = ((k + 1 - j : Nat) : Int) := by
      rw [wrap64 (x := (k : Int) - (j : Int)) (by omega) (by omega), wrap64 (by simp; omega) (by simp; omega)]
      simp
      omega
    rw [e1]
    by_cases hz : 0 < k + 1 - j
    · rw [show decide (((k + 1 - j : Nat) : Int) > Int.ofNat 0) = true by simp; omega]; rfl
    · rw [show decide (((k + 1 - j : Nat) : Int) > Int.ofNat 0) = false by simp; omega]
      have : k + 1 - j = 0 := by omega
      rw [this]; rfl
  rw [hst]
  have hq := of_made hM hm (List.getElem_mem hk) m.2.1[k].2.2.1
  have hkn := known_of hM hm (List.getElem_mem hk)
  have hr00 : ((m.1, m.2.1[k].1, m.2.1[k].2.1, m.2.1[k].2.2.1, m.2.1[k].2.2.2.1, ()) : Req) = (m.1, m.2.1[k].v) := rfl
  rw [hr00] at hq ⊢
  generalize hr : ((m.1, m.2.1[k].v) : Req) = r0
  rw [hr] at hq hkn
  obtain ⟨ex, b1, b2, b3⟩ := excl_loop k j (k + 1 - j) (by omega) (by omega) w rv m.1 m.2.1 hk (lit [109, 97, 105, 110]) [r0]
  rw [b1, Option.bind_some]
  simp only
  have hmain : r0.1 ≠ lit [109, 97, 105, 110] := by
    rw [← hr]
    obtain ⟨t, ht, _, e, _⟩ := made_of hM hm
    simp only
    rw [e]
    intro he
    have : ∀ q ∈ pathsL, q ≠ lit [109, 97, 105, 110] := by decide
    exact this _ (path_in ht) he
  have hrq : ∀ r ∈ [r0], okR r = true := fun r hr => by rw [List.mem_singleton.1 hr]; exact hq.1
  have hown : ∀ s ∈ ([] : List Swp), s.1 ≠ lit [109, 97, 105, 110] := fun s hs => by simp at hs
  obtain ⟨e, l, g3, hl, h⟩ := list_small (lit [109, 97, 105, 110]) [r0] ex [] w rv hS (by omega) (by simp) (by simp) hrq
  have g4 := F22_is (lit [109, 97, 105, 110]) [r0] ex [] w rv hS (made_okD hM (by omega) (by simp) hown) (by omega) (by simp) (by simp) hrq (by simp) l e g3
  rw [g3, Option.bind_some, g4, Option.bind_some]
  simp only [beq_self_eq_true, Bool.not_true, cond_false]
  rw [F23_self l hl, Option.bind_some]
  simp only [Bool.not_true, cond_false]
  -- what is said of it
  have hvers : versOf w m.1 = m.2.1.map Rel.v := by
    unfold versOf relsOf
    rw [made_mod hM hm]
    rfl
  have hrise : (m.2.1.map Rel.v).Pairwise fun a b => cmpV a b = -1 := by
    obtain ⟨t, ht, _, _, e, _⟩ := made_of hM hm
    rw [e]; exact verL_rises t ht
  have hrk : ∀ r ∈ [r0], Known w r := fun r hr => by rw [List.mem_singleton.1 hr]; exact hkn
  have hlt : ∀ a b (ha : a < m.2.1.length) (hb : b < m.2.1.length), a < b → cmpV m.2.1[a].v m.2.1[b].v = -1 := fun a b ha hb hab => by
    have := List.pairwise_iff_getElem.1 hrise a b (by simpa using ha) (by simpa using hb) hab
    simpa using this
  have hall1 : (allOf (lit [109, 97, 105, 110]) ex [] w [r0]).1 = (saidOf (lit [109, 97, 105, 110]) ex [] w r0).1 := by
    simp only [allOf]
    by_cases hz : (saidOf (lit [109, 97, 105, 110]) ex [] w r0).1 = 0 <;> simp [hz]
  by_cases hjk : k < j
  · rw [show decide ((j : Int) > (k : Int)) = true by simp; omega, cond_true]
    have hj1 : j = k + 1 := by omega
    have hx0 : exclOf ex r0 = true := by
      unfold exclOf
      rw [List.any_eq_true]
      exact ⟨r0, (b3 r0).2 ⟨k, hk, by omega, by omega, hr.symm⟩, eqR_iff.2 rfl⟩
    have hbel : belowOf w ex r0 = [] := by
      unfold belowOf
      rw [List.filter_eq_nil_iff]
      intro v hv hd
      rw [← hr] at hv hd
      simp only at hv
      rw [hvers, List.mem_map] at hv
      obtain ⟨y, hy, rfl⟩ := hv
      obtain ⟨t, ht, rfl⟩ := List.getElem_of_mem hy
      unfold delP at hd
      rw [Bool.not_eq_true', Bool.or_eq_false_iff] at hd
      obtain ⟨d1, d2⟩ := hd
      simp only at d1 d2
      have d1' : ¬ cmpV m.2.1[t].v m.2.1[k].v ≥ 0 := of_decide_eq_false d1
      have htk : t < k := by
        rcases Nat.lt_trichotomy t k with h | h | h
        · exact h
        · subst h
          rw [lin_cmpV.self] at d1'
          exact absurd (by decide) d1'
        · have h5 := hlt k t hk ht h
          have h6 := lin_cmpV.anti m.2.1[k].v m.2.1[t].v
          omega
      have : exclOf ex (m.1, m.2.1[t].v) = true := by
        unfold exclOf
        rw [List.any_eq_true]
        exact ⟨_, (b3 _).2 ⟨t, ht, by omega, by omega, rfl⟩, eqR_iff.2 rfl⟩
      rw [this] at d2
      cases d2
    have hsaid : saidOf (lit [109, 97, 105, 110]) ex [] w r0 = (13, none) := by
      unfold saidOf
      rw [if_neg (by simp [swapOf]), if_neg hmain, if_pos hx0, if_pos hbel]
    have hal : allOf (lit [109, 97, 105, 110]) ex [] w [r0] = (13, []) := by
      simp [allOf, hsaid]
    have he : e = 13 := by
      rcases h with ⟨_, h4, _⟩ | ⟨_, _, h4 | ⟨r, h4, _⟩⟩
      · rw [hal] at h4; cases h4
      · rw [hal] at h4; exact h4.symm
      · exfalso
        have : ∀ r, Reach (lit [109, 97, 105, 110]) ex [] w [r0] r → False := by
          intro r hr
          induction hr with
          | base hr => rw [hal] at hr; simp at hr
          | step _ _ ih => exact ih
        exact this r h4
    rw [he]
    rfl
  · rw [show decide ((j : Int) > (k : Int)) = false by simp; omega, cond_false]
    by_cases he : e = 13
    · rw [he]; rfl
    · rw [show (e == Int.ofNat 13) = false from by rw [← Bool.not_eq_true]; exact fun h => he (by simpa using h), cond_false]
      have hrk2 := reach_known (lit [109, 97, 105, 110]) [r0] ex w hM hrk
      rcases h with ⟨rfl, h4, out, rfl, h5, h6, h7⟩ | ⟨hne, _, h4⟩
      · rw [hall1] at h4
        have hok : ∀ r ∈ out, okR r = true := fun r hr => reach_ok (lit [109, 97, 105, 110]) [r0] ex [] w (small_ok ex [] w hS (by omega) (by simp)) hrq r ((h6 r).1 hr)
        -- what it is taken for
        obtain ⟨q, hq1, hq2, hq3⟩ : ∃ q, (saidOf (lit [109, 97, 105, 110]) ex [] w r0).2 = some q ∧ q.1 = m.1 ∧ cmpV m.2.1[k - j].v q.2 ≤ 0 := by
          have hs : saidOf (lit [109, 97, 105, 110]) ex [] w r0 = if exclOf ex r0 = true then (if belowOf w ex r0 = [] then (13, none) else (0, some (r0.1, maxV (belowOf w ex r0)))) else if (relOf w r0.1 r0.2).isSome then (0, some r0) else (9, none) := by
            unfold saidOf
            rw [if_neg (by simp [swapOf]), if_neg hmain]
          rw [hs] at h4 ⊢
          by_cases hx : exclOf ex r0 = true
          · rw [if_pos hx] at h4 ⊢
            split at h4
            · cases h4
            · rename_i hbne
              rw [if_neg hbne]
              refine ⟨_, rfl, by rw [← hr], ?_⟩
              simp only
              have hjpos : 0 < j := by
                unfold exclOf at hx
                rw [List.any_eq_true] at hx
                obtain ⟨z, hz, _⟩ := hx
                obtain ⟨t, ht, h8, h9, _⟩ := (b3 z).1 hz
                omega
              refine maxV_ge _ ?_ _ ?_
              · unfold belowOf
                rw [← hr]
                simp only
                rw [hvers]
                exact hrise.sublist List.filter_sublist
              · have hkj : k - j < m.2.1.length := by omega
                unfold belowOf
                rw [List.mem_filter, ← hr]
                simp only
                refine ⟨by rw [hvers]; exact List.mem_map.2 ⟨_, List.getElem_mem hkj, rfl⟩, ?_⟩
                unfold delP
                rw [Bool.not_eq_true', Bool.or_eq_false_iff]
                have h8 := hlt (k - j) k hkj hk (by omega)
                refine ⟨by simp only; rw [h8]; decide, ?_⟩
                unfold exclOf
                rw [List.any_eq_false]
                intro z hz hE
                obtain ⟨t, ht, h9, h10, h11⟩ := (b3 z).1 hz
                have h12 := (eqR_iff.1 hE).trans h11
                have h13 : m.2.1[k - j].v = m.2.1[t].v := (Prod.mk.inj h12).2
                have h14 := hlt (k - j) t hkj ht (by omega)
                rw [h13, lin_cmpV.self] at h14
                cases h14
          · rw [if_neg hx, if_pos (show (relOf w r0.1 r0.2).isSome = true from hkn)]
            refine ⟨r0, rfl, by rw [← hr], ?_⟩
            have hj0 : j = 0 := by
              rcases Nat.eq_zero_or_pos j with h | h
              · exact h
              · exfalso
                apply hx
                unfold exclOf
                rw [List.any_eq_true]
                exact ⟨r0, (b3 r0).2 ⟨k, hk, by omega, by omega, hr.symm⟩, eqR_iff.2 rfl⟩
            subst hj0
            rw [← hr]
            simp only [Nat.sub_zero]
            rw [lin_cmpV.self]; decide
        have hqo : q ∈ out := (h6 q).2 (.base (((allOf_ok0 _ ex [] w [r0] (hall1.trans h4)).2 q).2 ⟨r0, by simp, hq1⟩))
        obtain ⟨y, hy, hyp, hyf, hym⟩ : ∃ y ∈ out, y.1 = m.1 ∧ findOf (builtOf [] out) m.1 = some (mkB [] y) ∧ ∀ z ∈ out, z.1 = m.1 → cmpV z.2 y.2 ≤ 0 := by
          rcases find_built [] out m.1 with ⟨_, h⟩ | ⟨y, hy, hyp, hyf, hym⟩
          · exact absurd hq2 (h q hqo)
          · exact ⟨y, hy, hyp, hyf, hym⟩
        have hF : F20 (builtOf [] out, m.1, ()) = some ((mkB [] y).1, (mkB [] y).2.1, (mkB [] y).2.2.1, (mkB [] y).2.2.2.1, (mkB [] y).2.2.2.2.1, (mkB [] y).2.2.2.2.2.1, (mkB [] y).2.2.2.2.2.2.1, (mkB [] y).2.2.2.2.2.2.2.1, (mkB [] y).2.2.2.2.2.2.2.2.1, (mkB [] y).2.2.2.2.2.2.2.2.2.1, true, ()) := by
          rw [F20_is _ _ hl, hyf]; rfl
        have hyx : exclOf ex y = false := (hrk2 y ((h6 y).1 hy)).2
        have hloop : loop B4_1 ((k : Int), (j : Int), builtOf [] out, Int.ofNat 0, m.1, m.2.1, lit [109, 97, 105, 110], [r0], ex, ()) = some (.inr ((k : Int), (j : Int), builtOf [] out, m.1, m.2.1, ())) := by
          rw [show (Int.ofNat 0 : Int) = ((0 : Nat) : Int) from rfl]
          refine loop_row (B := B4_1) (fun t => ((k : Int), (j : Int), builtOf [] out, (t : Int), m.1, m.2.1, lit [109, 97, 105, 110], [r0], ex, ())) ex.length (e := .inr ((k : Int), (j : Int), builtOf [] out, m.1, m.2.1, ())) (fun t ht => ?_) (by
            simp only
            rw [B4_1_eq, lt_out]; rfl)
          rw [B4_1_eq, lt_in ht, cond_true, hF, Option.bind_some, ge_zero, cond_true, at_in ht, Option.bind_some, wrap_next ht (by omega)]
          have hne : eqV y.2 ex[t].2 = false := by
            rw [← Bool.not_eq_true]
            intro hE
            have h8 := eqV_iff.1 hE
            obtain ⟨u, hu, _, _, h9⟩ := (b3 ex[t]).1 (List.getElem_mem ht)
            have h10 : y = ex[t] := Prod.ext (by rw [h9]; exact hyp) h8
            have : exclOf ex y = true := by
              unfold exclOf
              rw [List.any_eq_true]
              exact ⟨y, by rw [h10]; exact List.getElem_mem ht, eqR_iff.2 rfl⟩
            rw [hyx] at this
            cases this
          simp only [beq_bs]
          show (bif eqV y.2 ex[t].2 then _ else _) = _
          rw [hne]
          rfl
        have hw3 : IntKind.wrap IntKind.i64 ((k : Int) - (j : Int)) = ((k - j : Nat) : Int) := by
          rw [wrap64 (by omega) (by omega)]
          omega
        have hkj : k - j < m.2.1.length := by omega
        rw [hloop, Option.bind_some]
        simp only [Sum.elim_inr]
        rw [hF, Option.bind_some]
        simp only [cond_true]
        rw [hw3, ge_zero, cond_true, at_in hkj, Option.bind_some]
        have hv := (small_ok ex [] w hS (by omega) (by simp)).vers m hm m.2.1[k - j] (List.getElem_mem hkj)
        have hF21 := F21_is y.2 m.2.1[k - j].v (okR_v (hok y hy)) hv
        have hF21' : F21 ((mkB [] y).2.1, (mkB [] y).2.2.1, (mkB [] y).2.2.2.1, (mkB [] y).2.2.2.2.1, m.2.1[k - j].1, m.2.1[k - j].2.1, m.2.1[k - j].2.2.1, m.2.1[k - j].2.2.2.1, ()) = _ := hF21
        rw [hF21', Option.bind_some]
        have h8 := hym q hqo hq2
        have h9 := lin_cmpV.le_trans hq3 h8
        have h10 := lin_cmpV.anti m.2.1[k - j].v y.2
        have h11 : decide (cmpV y.2 m.2.1[k - j].v ≥ Int.ofNat 0) = true := by
          rw [decide_eq_true_eq]
          show cmpV y.2 m.2.1[k - j].v ≥ 0
          omega
        rw [h11]
      · exfalso
        rcases h4 with h4 | ⟨r, h4, h5⟩
        · rcases (all_known (lit [109, 97, 105, 110]) ex w hrk).1 with h | h
          · exact hne (h4.symm.trans h)
          · exact he (h4.symm.trans h)
        · rcases (asks_known (lit [109, 97, 105, 110]) ex w hM (hrk2 r h4).1).1 with h | h
          · exact hne (h5.symm.trans h)
          · exact he (h5.symm.trans h)
end Go.Vx.Z
namespace Go.Proofs.YtmhlgndhcfdlbaaGreatDoor
open Go Go.Vx Go.ChangeShapes Go.WideShapes Go.ChangeAt Go.RowKit
open Go.ChangeMaps (open_string shut_string)
set_option linter.unusedVariables false
namespace buildExcludes
theorem own : ownKnob Tryz.prog.godebug = none := by kernel_rfl
theorem laidOut : laidOutB Tryz.prog = true := by kernel_rfl
set_option maxRecDepth 100000 in
theorem lifted (os : Os) (started : os.Started) (H : Type) (enc : TypeId × Value → H) :
    ReturnsInHanded {} Tryz.checked os 4 .any (fun w args => (Rows.buildExcludesSpec.pre enc Tryz.prog Tryz.f4 Rows.buildExcludesRow.domain false w args ∧ laidMetH Tryz.prog Rows.buildExcludesRow.laid w) ∧ sizedMet enc Tryz.prog Tryz.f4 (OpenSpec.ofChange Rows.buildExcludesSpec) false w args)
      (Rows.buildExcludesSpec.post enc Tryz.prog Tryz.f4 false true false false) := by
  refine returnsInHanded_of_change_and (C := Tryz.checked) (X := fun w _ => laidMetH Tryz.prog Rows.buildExcludesRow.laid w) (fun _ _ _ hh h => h.of_heap hh) own started (by kernel_rfl) Tryz.func4
    (ChangeSpec.witness_shaped (enc := enc) (C := Tryz.checked) (os := os) (X := fun w _ => laidMetH Tryz.prog Rows.buildExcludesRow.laid w) false (World.laidAll Tryz.prog os Rows.buildExcludesRow.laid) #[.int .i64 0, .slice none 0 0, .int .i64 0, .int .i64 0] 8 (World.laidAll_os _ _ _)
      (World.shaped_of_ZipB (by kernel_rfl) (by kernel_rfl)) (by kernel_rfl) (by kernel_rfl) (by kernel_rfl)
      (by rw [MakeChecks.laidMetH_plain _ _ _ (by kernel_rfl)]; exact laidMet_laidAll _ (by kernel_rfl) (by kernel_rfl))) ?_
  intro W base args ds gs before hval0 hW hc hsz0 hL _
  have hsz : (DataW.weightsEach Tryz.prog (Tryz.f4.params.toList ++ Rows.buildExcludesSpec.plain.varTypes Tryz.prog) (ds ++ gs)).all (· ≤ reachBytes) = true := hsz0
  have hval : ∀ (j : Nat) t v, Tryz.f4.params[j]? = some t → args[j]? = some v → Value.okWide Tryz.prog W .any base t v := hval0
  have hW' := hW
  obtain ⟨p, q, hA0, hV, rfl, hfz, hnd⟩ := hW
  have hA : DataW.TrodAll enc Tryz.prog W 0 (fun _ => true) true Tryz.f4.params.toList args.toList ds p := hA0
  rw [Tryz.params4] at hA hval hsz
  obtain ⟨v0, vs0, d0, ds0, p0, q0, hargs, rfl, rfl, h0, r0⟩ := trodAll_cons hA
  obtain ⟨v1, vs1, d1, ds1, p1, q1, rfl, rfl, rfl, h1, r1⟩ := trodAll_cons r0
  obtain ⟨v2, vs2, d2, ds2, p2, q2, rfl, rfl, rfl, h2, r2⟩ := trodAll_cons r1
  obtain ⟨v3, vs3, d3, ds3, p3, q3, rfl, rfl, rfl, h3, r3⟩ := trodAll_cons r2
  obtain ⟨rfl, rfl, rfl⟩ := trodAll_nil r3
  obtain rfl : args = #[v0, v1, v2, v3] := by cases args; simp_all
  obtain ⟨rfl, rfl⟩ := trodVars_none hV
  obtain ⟨a0, rfl, rfl, rfl, w0⟩ := open_int Tryz.underlying3 (hval 0 3 v0 rfl rfl) h0
  obtain ⟨a1, len1, cap1, rfl⟩ := okWide_slice Tryz.underlying22 (hval 1 22 v1 rfl rfl)
  have k1 := h1
  have lt1 : ∀ x ∈ p1, x.block < W.heap.size := by obtain ⟨m, hm⟩ := k1; exact DataW.trod_lt m _ _ _ hm
  obtain ⟨z1, w1⟩ : ∃ zs, IsRow .i64 W a1 len1 cap1 zs := by
    obtain ⟨fuel, hf⟩ := h1
    rcases open_ints Tryz.underlying22 Tryz.underlying3 (by kernel_rfl) hf with ⟨hcs, _⟩ | ⟨x, l, c, zs, hcs, _, hl, hm, hz, _, hcell, hwz⟩
    · simp [Value.cells] at hcs
      obtain ⟨rfl, rfl, rfl⟩ := hcs
      exact ⟨[], .inl ⟨rfl, rfl, rfl, rfl⟩⟩
    · simp [Value.cells] at hcs
      obtain ⟨rfl, rfl, rfl⟩ := hcs
      exact ⟨zs, .inr ⟨_, rfl, hl, hm, by simpa using hz, hcell, hwz⟩⟩
  have wf1 : ∀ x ∈ z1.take len1, (Lit.int .i64 x).wf = true := by
    rcases w1 with ⟨_, _, _, rfl⟩ | ⟨_, _, _, _, _, _, hwf⟩
    · simp
    · exact fun x hx => hwf x (List.mem_of_mem_take hx)
  obtain ⟨a2, rfl, rfl, rfl, w2⟩ := open_int Tryz.underlying3 (hval 2 3 v2 rfl rfl) h2
  obtain ⟨a3, rfl, rfl, rfl, w3⟩ := open_int Tryz.underlying3 (hval 3 3 v3 rfl rfl) h3
  clear hA0 hval0 hsz0 hsz
  have hst : ∀ y, (RowS a1 z1.length y) → y.spot = none ∧ ∃ v, W.cell? y = some v := by
    intro y hy
    exact isRow_st w1 hy
  refine (law_calls (Go.Vx.Z.ok4) rfl (enters_of Tryz.func4 (by kernel_rfl) rfl) (S := fun y => RowS a1 z1.length y) hst (a0, (z1.take len1), a2, a3, ()) (Go.Vx.Z.pure_BuildExcludes a0 (z1.take len1) a2 a3 w0 wf1 w2 w3) rfl (fun i => ?_)).mono fun e W' ⟨he, bel⟩ => ?_
  · match i with
    | 0 => exact rfl
    | 1 => exact isRow_rep w1 (fun y hy => hy)
    | 2 => exact rfl
    | 3 => exact rfl
    | i + 4 => trivial
  subst he
  exact ⟨_, rfl, _, _, _, [], _, [], hW', trodAll_mk1 (shut_bool Tryz.underlying4 _), (trodAll_cons_mk (shut_int Tryz.underlying3 w0) (trodAll_cons_mk (Below.trod laidOut (by kernel_rfl) (of_decide_eq_true (by kernel_rfl)) k1 bel lt1) (trodAll_cons_mk (shut_int Tryz.underlying3 w2) (trodAll_cons_mk (shut_int Tryz.underlying3 w3) trodAll_mk0)))), rfl, bel.frame _, fun h => by cases h⟩
theorem holds : Rows.BuildExcludesSaid :=
  OpenClaim.holds_of_wide 4 Tryz.f4 rfl rfl rfl rfl rfl rfl rfl ⟨rfl, rfl, rfl, rfl, rfl⟩ rfl rfl rfl rfl rfl (by kernel_rfl) Tryz.func4 (by kernel_rfl)
    (of_decide_eq_true (by kernel_rfl)) (by unfold Func.isWrapper; first | (rw [if_pos (by decide +kernel)]; kernel_rfl) | (rw [if_neg (by decide +kernel)]; exact ⟨rfl, rfl⟩))
    (fun os started H enc _ => lifted os started H enc)
theorem card_holds : Rows.BuildExcludesCardSaid :=
  Claim7.holds_tied_plain_at .later [] [.data, .pinned] true (true, "d582014b3baee50914b0e50363f0aa1c829743198b04de7ea16a202eaefeca98") false holds (fun _ h => by cases h) (by kernel_rfl) (fun _ h => by cases h) buildExcludes_row_tie rfl ⟨rfl, rfl⟩ (by kernel_rfl) rfl
    (fun f fn hf hfn => by
      obtain rfl : f = 4 := Option.some.inj ((show Tryz.prog.funcNamed "transhumance/transhumancelaw10.BuildExcludes" = some 4 by kernel_rfl).symm.trans hf) |>.symm
      obtain rfl : fn = Tryz.f4 := (Option.some.inj (Tryz.func4.symm.trans hfn)).symm
      exact ⟨by kernel_rfl, fun j t ht => by
        rw [Tryz.params4] at ht
        have hm : t ∈ [3, 22, 3, 3] := by simpa using Array.mem_of_getElem? ht
        have hall : ([3, 22, 3, 3].all fun u => !Tryz.prog.wantsStandIn u) = true := by kernel_rfl
        exact (show Tryz.prog.wantsStandIn t = false by simpa using List.all_eq_true.1 hall t hm)⟩)
    (by kernel_rfl)
end buildExcludes
end Go.Proofs.YtmhlgndhcfdlbaaGreatDoor
