/- Each trouble is true: no module, no version, a version that is not within, two that clash. -/
import Derived.Test.YtjkfdmdnpkblfaaGreatDoorV6
import Derived.Test.YtjkfdmdnpkblfaaGreatDoorV2
import Derived.Test.YtjkfdmdnpkblfaaGreatDoorRows
import Derived.Test.YtjkfdmdnpkblfaaGreatDoorTie
import Derived.Test.YtjkfdmdnpkblfaaGreatDoorCards
import Derived.WalkKit
import Derived.ProofKit
import Derived.OpenShut
import Derived.ShutString
import Derived.ChangeOld
import Derived.Below
import Derived.SizedLaws
import Derived.LaidMore
import Derived.Lay
import Derived.SevenTiedAt
import Derived.Stop.Joined
import Derived.KernelRfl
set_option linter.unusedSimpArgs false
/-! Each trouble is true: no module, no version, a version that is not within, two that clash. -/
namespace Go.Vx.Z
open Go Go.Vx
set_option linter.unusedVariables false
set_option maxRecDepth 100000
theorem trb_from {w:List Mod} {rv:List Rev} {md:ByteArray}:∀ (l:List Lock) (b:List Want × List Trb) (T:Trb),T ∈ (l.foldl (stepP w rv md) b).2 → T ∈ b.2 ∨ ∃ x ∈ l,∃ o,judge md x (whereOf w rv x) o = some T
 | [],b,T,h => .inl h
 | x :: l,b,T,h => by
  rw [List.foldl_cons] at h
  rcases trb_from l _ T h with h | ⟨y,hy,o,ho⟩
  ·unfold stepP at h
   cases hj:judge md x (whereOf w rv x) b.1 with
   | some t =>
    rw [hj] at h
    rcases List.mem_append.1 h with h | h
    ·exact .inl h
    ·rw [List.mem_singleton.1 h]
     exact .inr ⟨x,List.mem_cons_self,_,hj⟩
   | none => rw [hj] at h; exact .inl h
  ·exact .inr ⟨y,List.mem_cons_of_mem _ hy,o,ho⟩
theorem judge_alone {md:ByteArray} {x:Lock} {s:Fnd} {o:List Want} {T:Trb} (hok:FndOK s) (h:judge md x s o = some T) :
  T.2.1 = x.1 ∧ ((T.1 = 8 ∨ T.1 = 9 ∨ T.1 = 10) ∧ judge (lit [110,111,110,101]) x s [] = some T ∨ T.1 = 11 ∧ judge (lit [110,111,110,101]) x s [] = none ∧ T.2.2.1 = s.2.1 ∧ T.2.2.2.1 = s.2.2.2.1 ∧ T.2.2.2.2.1 = s.2.2.2.2.1 ∧ T.2.2.2.2.2.1 = s.2.2.2.2.2.1 ∧ T.2.2.2.2.2.2.1 = s.2.2.2.2.2.2.1):=by
 unfold judge at h ⊢
 by_cases he:s.e ≠ 0
 ·rw [if_pos he] at h ⊢
  injection h with h
  subst h
  refine ⟨rfl,.inl ⟨?_,rfl⟩⟩
  have:=Fnd.e_cases s
  show s.e = 8 ∨ s.e = 9 ∨ s.e = 10
  omega
 ·rw [if_neg he] at h ⊢
  by_cases ho:outB x.2.2.2.1 s.2.2.2 = true
  ·rw [if_pos ho] at h ⊢
   injection h with h
   subst h
   exact ⟨rfl,.inl ⟨.inr (.inr rfl),rfl⟩⟩
  ·rw [if_neg ho] at h ⊢
   have hp:=(path_main (hok.of_e (by simpa using he)).2).2
   rw [if_neg hp]
   by_cases hm:bs s.2.1 = bs md
   ·rw [if_pos hm] at h
    injection h with h
    subst h
    exact ⟨rfl,.inr ⟨rfl,rfl,rfl,rfl,rfl,rfl,rfl⟩⟩
   ·rw [if_neg hm] at h
    cases hf:o.find? (sameP s.2.1) with
    | none => rw [hf] at h; cases h
    | some b =>
     rw [hf,Option.bind_some] at h
     by_cases hq:eqW b (wantOf x s) = true
     ·rw [if_pos hq] at h; cases h
     ·rw [if_neg hq] at h
      injection h with h
      subst h
      exact ⟨rfl,.inr ⟨rfl,rfl,rfl,rfl,rfl,rfl,rfl⟩⟩
theorem root_at {l:List Lock} (h:RootsApart l) {k j:Nat} (hk:k < l.length) (hj:j < l.length) (e:bs l[k].1 = bs l[j].1):k = j:=by
 have h':=List.pairwise_iff_getElem.1 h
 rcases Nat.lt_trichotomy k j with c | c | c
 ·exact absurd e (h' k j hk hj c)
 ·exact c
 ·exact absurd e.symm (h' j k hj hk c)
theorem drop_take_one {α:Type} (l:List α) (k:Nat) (hk:k < l.length):List.drop k (List.take (k + 1) l) = [l[k]]:=by
 rw [List.take_succ_eq_append_getElem hk,List.drop_append_of_le_length (by simp; omega)]
 simp
theorem eq_self (T:Trb):(T.1 == T.1 && (bl T.2.1 == bl T.2.1 && (bl T.2.2.1 == bl T.2.2.1 && (T.2.2.2.1 == T.2.2.2.1 && (T.2.2.2.2.1 == T.2.2.2.2.1 && (T.2.2.2.2.2.1 == T.2.2.2.2.2.1 && bl T.2.2.2.2.2.2.1 == bl T.2.2.2.2.2.2.1)) && (T.2.2.2.2.2.2.2.1 == T.2.2.2.2.2.2.2.1 && (T.2.2.2.2.2.2.2.2.1 == T.2.2.2.2.2.2.2.2.1 && (T.2.2.2.2.2.2.2.2.2.1 == T.2.2.2.2.2.2.2.2.2.1 && bl T.2.2.2.2.2.2.2.2.2.2.1 == bl T.2.2.2.2.2.2.2.2.2.2.1))))))) = true:=by simp only [beq_self_eq_true,Bool.and_self]
theorem B4_1_is {w:List Mod} {rv:List Rev} {l:List Lock} {ts:List Trb} (hw:GoodWd w rv) (hl:∀ x ∈ l,GoodK x) (hr:RootsApart l) (hll:l.length ≤ 900) (htl:ts.length ≤ 1000) {md:ByteArray} {i:Nat} (hi:i < ts.length) (hT:∃ x ∈ l,∃ o,judge md x (whereOf w rv x) o = some ts[i]) :
  B4_1 (l,ts,(i:Int),w,rv,()) = some (.inl (l,ts,((i + 1:Nat):Int),w,rv,())):=by
 obtain ⟨x,hx,o,ho⟩:=hT
 have hok:=where_ok hw (hl x hx)
 obtain ⟨hroot,hcase⟩:=judge_alone hok ho
 obtain ⟨e,h1,h2⟩:=loop_idx (B:=B4_0) l (fun k => (l,ts,(i:Int),(k:Int),w,rv,())) (fun y => bs y.1 == bs ts[i].2.1) (fun k _ => (l,ts,(i:Int),(k:Int),w,rv,())) (l,ts,(i:Int),Int.ofNat l.length,w,rv,()) (by
   intro k hk
   rw [B4_0_eq,lt_in hk,ge_zero,ge_zero,at_in hk,at_in hi,wrap_next hk (by omega)]
   simp only [cond_true,Option.bind_some,beq_bs]
   cases (bs l[k].1 == bs ts[i].2.1) <;> rfl) (by rw [B4_0_eq,lt_out]; rfl)
 have h1':loop B4_0 (l,ts,(i:Int),Int.ofNat 0,w,rv,()) = some e:=h1
 obtain ⟨k,hk,he,hlk⟩:∃ (k:Nat) (hk:k < l.length),e = (l,ts,(i:Int),(k:Int),w,rv,()) ∧ l[k] = x:=by
  rcases h2 with ⟨h2,_⟩ | ⟨k,hk,_,h3,_,h4⟩
  ·have:=List.find?_eq_none.1 h2 x hx
   rw [hroot] at this
   simp at this
  ·refine ⟨k,hk,h4,?_⟩
   obtain ⟨j,hj,rfl⟩:=List.getElem_of_mem hx
   have h3':bs l[k].1 = bs ts[i].2.1:=by simpa using h3
   rw [hroot] at h3'
   have:=root_at hr hk hj h3'
   subst this
   rfl
 rw [B4_1_eq,lt_in hi,cond_true,h1',he,Option.bind_some]
 simp only
 have c1:((k:Int) == Int.ofNat l.length) = false:=by simp; omega
 have c2:(decide (Int.ofNat 0 ≤ (k:Int)) && (decide ((k:Int) ≤ ((k + 1:Nat):Int)) && decide (((k + 1:Nat):Int) ≤ Int.ofNat l.length))) = true:=by simp; omega
 have c3:List.drop (Int.toNat (k:Int)) (List.take (Int.toNat ((k + 1:Nat):Int)) l) = [x]:=by
  rw [Int.toNat_natCast,Int.toNat_natCast,drop_take_one l k hk,hlk]
 rw [c1,cond_false,wrap_next hk (by omega),c2,cond_true,c3,(wants_one (md:=lit [110,111,110,101]) hw (hl x hx)).2,Option.bind_some]
 simp only [ge_zero,cond_true]
 rw [at_in hi,Option.bind_some,wrap_next hi (by omega),run_one]
 generalize ts[i] = T at hcase
 rcases hcase with ⟨hE,hj⟩ | ⟨hE,hj,a1,a2,a3,a4,a5⟩
 ·rw [hj]
  have e1:(!Int.ofNat (List.length [T]) == Int.ofNat 1) = false:=rfl
  have e2:[T][0]? = some T:=rfl
  simp only [e1,e2,cond_false,Option.bind_some,eq_self,Bool.not_true]
  rcases hE with hE | hE | hE <;> rw [hE] <;> rfl
 ·rw [hj]
  have e1:(!Int.ofNat (List.length [wantOf x (whereOf w rv x)]) == Int.ofNat 1) = false:=rfl
  have e2:[wantOf x (whereOf w rv x)][0]? = some (wantOf x (whereOf w rv x)):=rfl
  have e3:(bl (wantOf x (whereOf w rv x)).1 == bl T.2.2.1) = true:=by rw [a1]; simp [wantOf]
  have e4:((wantOf x (whereOf w rv x)).2.1 == T.2.2.2.1 && ((wantOf x (whereOf w rv x)).2.2.1 == T.2.2.2.2.1 && ((wantOf x (whereOf w rv x)).2.2.2.1 == T.2.2.2.2.2.1 && bl (wantOf x (whereOf w rv x)).2.2.2.2.1 == bl T.2.2.2.2.2.2.1))) = true:=by rw [a2,a3,a4,a5]; simp [wantOf]
  simp only [e1,e2,e3,e4,cond_false,Option.bind_some,Bool.not_true]
  rw [hE]
  rfl
theorem F4_is (x0:Int) (x1 x2:List Int) (x3:Int):F4 (x0,x1,x2,x3,()) = some (true,()):=by
 rw [F4_eq]
 obtain ⟨n,w,rv,h1,h2,h3⟩:=F10_full x0 x1
 obtain ⟨l,h4,h5⟩:=F11_is h2 h3 x2
 obtain ⟨md,h6⟩:=F13_is x3
 have hl:=h5.len
 have hw:=made_wd h2 h3
 obtain ⟨R,g1,g2,g3⟩:=wants_same (md:=md) hw h5.good (by omega)
 obtain ⟨r1,r2⟩:=relW_len g3 (by omega)
 rw [h1,Option.bind_some]
 simp only
 rw [h4,Option.bind_some,h6,Option.bind_some]
 simp only
 rw [g1,Option.bind_some]
 have hloop:loop B4_1 (l,R.2,Int.ofNat 0,w,rv,()) = some (.inr ()):=by
  refine loop_row (B:=B4_1) (fun i => (l,R.2,(i:Int),w,rv,())) R.2.length (fun i hi => ?_) (by rw [B4_1_eq,lt_out]; rfl)
  refine B4_1_is hw h5.good h5.apart (by omega) (by omega) (md:=md) hi ?_
  have hm:R.2[i] ∈ (runP w rv md l).2:=by rw [← g3.trb]; exact List.getElem_mem hi
  rcases trb_from l _ _ hm with h | h
  ·cases h
  ·exact h
 simp only
 rw [hloop]
 rfl
theorem pure_MoveTroubles (x0:Int) (x1 x2:List Int) (x3:Int) (h0:(Lit.int .i64 x0).wf = true) (h1:∀ x ∈ x1,(Lit.int .i64 x).wf = true) (h2:∀ x ∈ x2,(Lit.int .i64 x).wf = true) (h3:(Lit.int .i64 x3).wf = true):F4 (x0,x1,x2,x3,()) = some (true,()):=F4_is x0 x1 x2 x3
end Go.Vx.Z
namespace Go.Proofs.YtjkfdmdnpkblfaaGreatDoor
open Go Go.Vx Go.ChangeShapes Go.WideShapes Go.ChangeAt Go.RowKit
open Go.ChangeMaps (open_string shut_string)
set_option linter.unusedVariables false
namespace moveTroubles
theorem own:ownKnob Tryz.prog.godebug = none:=by kernel_rfl
theorem laidOut:laidOutB Tryz.prog = true:=by kernel_rfl
set_option maxRecDepth 100000 in
theorem lifted (os:Os) (started:os.Started) (H:Type) (enc:TypeId × Value → H) :
  ReturnsInHanded {} Tryz.checked os 4 .any (fun w args => (Rows.moveTroublesSpec.pre enc Tryz.prog Tryz.f4 Rows.moveTroublesRow.domain false w args ∧ laidMetH Tryz.prog Rows.moveTroublesRow.laid w) ∧ sizedMet enc Tryz.prog Tryz.f4 (OpenSpec.ofChange Rows.moveTroublesSpec) false w args)
   (Rows.moveTroublesSpec.post enc Tryz.prog Tryz.f4 false true false false):=by
 refine returnsInHanded_of_change_and (C:=Tryz.checked) (X:=fun w _ => laidMetH Tryz.prog Rows.moveTroublesRow.laid w) (fun _ _ _ hh h => h.of_heap hh) own started (by kernel_rfl) Tryz.func4
  (ChangeSpec.witness_shaped (enc:=enc) (C:=Tryz.checked) (os:=os) (X:=fun w _ => laidMetH Tryz.prog Rows.moveTroublesRow.laid w) false (World.laidAll Tryz.prog os Rows.moveTroublesRow.laid) #[.int .i64 0,.slice none 0 0,.slice none 0 0,.int .i64 0] 8 (World.laidAll_os _ _ _)
   (World.shaped_of_ZipB (by kernel_rfl) (by kernel_rfl)) (by kernel_rfl) (by kernel_rfl) (by kernel_rfl)
   (by rw [MakeChecks.laidMetH_plain _ _ _ (by kernel_rfl)]; exact laidMet_laidAll _ (by kernel_rfl) (by kernel_rfl))) ?_
 intro W base args ds gs before hval0 hW hc hsz0 hL _
 have hsz:(DataW.weightsEach Tryz.prog (Tryz.f4.params.toList ++ Rows.moveTroublesSpec.plain.varTypes Tryz.prog) (ds ++ gs)).all (· ≤ reachBytes) = true:=hsz0
 have hval:∀ (j:Nat) t v,Tryz.f4.params[j]? = some t → args[j]? = some v → Value.okWide Tryz.prog W .any base t v:=hval0
 have hW':=hW
 obtain ⟨p,q,hA0,hV,rfl,hfz,hnd⟩:=hW
 have hA:DataW.TrodAll enc Tryz.prog W 0 (fun _ => true) true Tryz.f4.params.toList args.toList ds p:=hA0
 rw [Tryz.params4] at hA hval hsz
 obtain ⟨v0,vs0,d0,ds0,p0,q0,hargs,rfl,rfl,h0,r0⟩:=trodAll_cons hA
 obtain ⟨v1,vs1,d1,ds1,p1,q1,rfl,rfl,rfl,h1,r1⟩:=trodAll_cons r0
 obtain ⟨v2,vs2,d2,ds2,p2,q2,rfl,rfl,rfl,h2,r2⟩:=trodAll_cons r1
 obtain ⟨v3,vs3,d3,ds3,p3,q3,rfl,rfl,rfl,h3,r3⟩:=trodAll_cons r2
 obtain ⟨rfl,rfl,rfl⟩:=trodAll_nil r3
 obtain rfl:args = #[v0,v1,v2,v3]:=by cases args; simp_all
 obtain ⟨rfl,rfl⟩:=trodVars_none hV
 obtain ⟨a0,rfl,rfl,rfl,w0⟩:=open_int Tryz.underlying3 (hval 0 3 v0 rfl rfl) h0
 obtain ⟨a1,len1,cap1,rfl⟩:=okWide_slice Tryz.underlying22 (hval 1 22 v1 rfl rfl)
 have k1:=h1
 have lt1:∀ x ∈ p1,x.block < W.heap.size:=by obtain ⟨m,hm⟩:=k1; exact DataW.trod_lt m _ _ _ hm
 obtain ⟨z1,w1⟩:∃ zs,IsRow .i64 W a1 len1 cap1 zs:=by
  obtain ⟨fuel,hf⟩:=h1
  rcases open_ints Tryz.underlying22 Tryz.underlying3 (by kernel_rfl) hf with ⟨hcs,_⟩ | ⟨x,l,c,zs,hcs,_,hl,hm,hz,_,hcell,hwz⟩
  ·simp [Value.cells] at hcs
   obtain ⟨rfl,rfl,rfl⟩:=hcs
   exact ⟨[],.inl ⟨rfl,rfl,rfl,rfl⟩⟩
  ·simp [Value.cells] at hcs
   obtain ⟨rfl,rfl,rfl⟩:=hcs
   exact ⟨zs,.inr ⟨_,rfl,hl,hm,by simpa using hz,hcell,hwz⟩⟩
 have wf1:∀ x ∈ z1.take len1,(Lit.int .i64 x).wf = true:=by
  rcases w1 with ⟨_,_,_,rfl⟩ | ⟨_,_,_,_,_,_,hwf⟩
  ·simp
  ·exact fun x hx => hwf x (List.mem_of_mem_take hx)
 obtain ⟨a2,len2,cap2,rfl⟩:=okWide_slice Tryz.underlying22 (hval 2 22 v2 rfl rfl)
 have k2:=h2
 have lt2:∀ x ∈ p2,x.block < W.heap.size:=by obtain ⟨m,hm⟩:=k2; exact DataW.trod_lt m _ _ _ hm
 obtain ⟨z2,w2⟩:∃ zs,IsRow .i64 W a2 len2 cap2 zs:=by
  obtain ⟨fuel,hf⟩:=h2
  rcases open_ints Tryz.underlying22 Tryz.underlying3 (by kernel_rfl) hf with ⟨hcs,_⟩ | ⟨x,l,c,zs,hcs,_,hl,hm,hz,_,hcell,hwz⟩
  ·simp [Value.cells] at hcs
   obtain ⟨rfl,rfl,rfl⟩:=hcs
   exact ⟨[],.inl ⟨rfl,rfl,rfl,rfl⟩⟩
  ·simp [Value.cells] at hcs
   obtain ⟨rfl,rfl,rfl⟩:=hcs
   exact ⟨zs,.inr ⟨_,rfl,hl,hm,by simpa using hz,hcell,hwz⟩⟩
 have wf2:∀ x ∈ z2.take len2,(Lit.int .i64 x).wf = true:=by
  rcases w2 with ⟨_,_,_,rfl⟩ | ⟨_,_,_,_,_,_,hwf⟩
  ·simp
  ·exact fun x hx => hwf x (List.mem_of_mem_take hx)
 obtain ⟨a3,rfl,rfl,rfl,w3⟩:=open_int Tryz.underlying3 (hval 3 3 v3 rfl rfl) h3
 clear hA0 hval0 hsz0 hsz
 have hst:∀ y,(RowS a1 z1.length y ∨ RowS a2 z2.length y) → y.spot = none ∧ ∃ v,W.cell? y = some v:=by
  intro y hy
  rcases hy with hy | hy
  ·exact isRow_st w1 hy
  ·exact isRow_st w2 hy
 have hL1:laidMet Tryz.prog Rows.moveTroublesRow.laid W:=by rw [← MakeChecks.laidMetH_plain _ _ _ (by kernel_rfl)]; exact hL
 have hG:=ground_of_laid hL1 (List.mem_cons_of_mem _ (List.mem_cons_of_mem _ List.mem_cons_self)) (by kernel_rfl) (g:=3) (t:=345) (n:=20) (e:=199) (by kernel_rfl) (by kernel_rfl) Tryz.underlying345 Tryz.underlying199 (by kernel_rfl) (by kernel_rfl)
 refine (law_calls (Go.Vx.Z.ok4) rfl (enters_of Tryz.func4 (by kernel_rfl) rfl) hG.1 hG.2 (S:=fun y => RowS a1 z1.length y ∨ RowS a2 z2.length y) hst (a0,(z1.take len1),(z2.take len2),a3,()) (Go.Vx.Z.pure_MoveTroubles a0 (z1.take len1) (z2.take len2) a3 w0 wf1 wf2 w3) rfl (fun i => ?_)).mono fun e W' ⟨he,bel⟩ => ?_
 ·match i with
  | 0 => exact rfl
  | 1 => exact isRow_rep w1 (fun y hy => .inl hy)
  | 2 => exact isRow_rep w2 (fun y hy => .inr (hy))
  | 3 => exact rfl
  | i + 4 => trivial
 subst he
 exact ⟨_,rfl,_,_,_,[],_,[],hW',trodAll_mk1 (shut_bool Tryz.underlying4 _),(trodAll_cons_mk (shut_int Tryz.underlying3 w0) (trodAll_cons_mk (Below.trod laidOut (by kernel_rfl) (of_decide_eq_true (by kernel_rfl)) k1 bel lt1) (trodAll_cons_mk (Below.trod laidOut (by kernel_rfl) (of_decide_eq_true (by kernel_rfl)) k2 bel lt2) (trodAll_cons_mk (shut_int Tryz.underlying3 w3) trodAll_mk0)))),rfl,bel.frame _,fun h => by cases h⟩
theorem and2 {a b:Bool} (h:a = true) (k:b = true):(a && b) = true:=by rw [h,k]; rfl
set_option maxHeartbeats 40000000
theorem joined:joinedFacts Tryz.prog 4 Tryz.f4 Rows.moveTroublesSpec Rows.moveTroublesRow = true:=by
 unfold joinedFacts
 repeat' with_reducible refine and2 ?_ ?_
 all_goals as_aux_lemma => kernel_rfl
theorem holds:Rows.MoveTroublesSaid:=
 OpenClaim.holds_of_wide 4 Tryz.f4 rfl rfl rfl rfl rfl rfl rfl ⟨rfl,rfl,rfl,rfl,rfl⟩ rfl rfl rfl rfl rfl (by as_aux_lemma => kernel_rfl) Tryz.func4 joined
  (of_decide_eq_true (by as_aux_lemma => kernel_rfl)) (by unfold Func.isWrapper; first | (rw [if_pos (by decide +kernel)]; kernel_rfl) | (rw [if_neg (by decide +kernel)]; exact ⟨rfl,rfl⟩))
  (fun os started H enc _ => lifted os started H enc)
theorem card_holds:Rows.MoveTroublesCardSaid:=
 Claim7.holds_tied_plain_at .later [] [.data, .data, .data, .data, .pinned] true (true, "e3fafb3cf7f5ac5126bf0d8721f292267cb5b60b099b1ec88e43ceadb87e0fb6") false holds (fun _ h => by cases h) (by as_aux_lemma => kernel_rfl) (fun _ h => by cases h) moveTroubles_row_tie rfl ⟨rfl, rfl⟩ (by as_aux_lemma => kernel_rfl) rfl
  (fun f fn hf hfn => by
   obtain rfl : f = 4 := Option.some.inj ((show Tryz.prog.funcNamed "transhumance/transhumancelaw11.MoveTroubles" = some 4 by as_aux_lemma => kernel_rfl).symm.trans hf) |>.symm
   obtain rfl:fn = Tryz.f4:=(Option.some.inj (Tryz.func4.symm.trans hfn)).symm
   exact ⟨by as_aux_lemma => kernel_rfl,fun j t ht => by
    rw [Tryz.params4] at ht
    have hm:t ∈ [3,22,22,3]:=by simpa using Array.mem_of_getElem? ht
    have hall:([3,22,22,3].all fun u => !Tryz.prog.wantsStandIn u) = true:=by as_aux_lemma => kernel_rfl
    exact (show Tryz.prog.wantsStandIn t = false by simpa using List.all_eq_true.1 hall t hm)⟩)
  (by as_aux_lemma => kernel_rfl)
end moveTroubles
end Go.Proofs.YtjkfdmdnpkblfaaGreatDoor
