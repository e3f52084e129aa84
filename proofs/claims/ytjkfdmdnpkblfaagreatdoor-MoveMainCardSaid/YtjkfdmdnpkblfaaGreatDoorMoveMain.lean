/- A lock of the module itself clashes. -/
import Derived.Test.YtjkfdmdnpkblfaaGreatDoorV6
import Derived.Test.YtjkfdmdnpkblfaaGreatDoorV2
import Derived.Test.YtjkfdmdnpkblfaaGreatDoorRows
import Derived.Test.YtjkfdmdnpkblfaaGreatDoorTie
import Derived.Test.YtjkfdmdnpkblfaaGreatDoorCards
import Derived.WalkKit
import Derived.ProofKit
import Derived.OpenShut
import Derived.ShutString
import Derived.ChangeOld
import Derived.Below
import Derived.SizedLaws
import Derived.LaidMore
import Derived.Lay
import Derived.SevenTiedAt
import Derived.Stop.Joined
import Derived.KernelRfl
set_option linter.unusedSimpArgs false
/-! A lock of the module itself clashes. -/
namespace Go.Vx.Z
open Go Go.Vx
set_option linter.unusedVariables false
set_option maxRecDepth 100000
theorem app_nil (r:ByteArray):r ++ lit [] = r:=by apply bs_inj; rw [bs_append]; simp [bs,lit]
theorem main_end {v:Ver} {p root:ByteArray} (R:List Want × List Trb) (hR:R = ([],[trb 11 root p v ver0])) :
  (bif Int.ofNat (List.length R.1) == Int.ofNat 0 then bif Int.ofNat (List.length R.2) == Int.ofNat 1 then Option.bind R.2[0]? fun y_2 => some (y_2.1 == Int.ofNat 11 && (bl y_2.2.1 == bl root && (bl y_2.2.2.1 == bl p && (y_2.2.2.2.1 == v.1 && (y_2.2.2.2.2.1 == v.2.1 && (y_2.2.2.2.2.2.1 == v.2.2.1 && bl y_2.2.2.2.2.2.2.1 == bl v.2.2.2.1)) && (y_2.2.2.2.2.2.2.2.1 == Int.ofNat 0 && (y_2.2.2.2.2.2.2.2.2.1 == Int.ofNat 0 && (y_2.2.2.2.2.2.2.2.2.2.1 == Int.ofNat 0 && bl y_2.2.2.2.2.2.2.2.2.2.2.1 == [])))))),()) else some (false,()) else some (false,())) = some (true,()):=by
 subst hR
 have e1:(Int.ofNat (List.length ([]:List Want)) == Int.ofNat 0) = true:=rfl
 have e2:(Int.ofNat (List.length [trb 11 root p v ver0]) == Int.ofNat 1) = true:=rfl
 have e3:[trb 11 root p v ver0][0]? = some (trb 11 root p v ver0):=rfl
 have e4:(bl (lit []) == []) = true:=rfl
 simp only
 rw [e1,e2,e3]
 simp only [cond_true,Option.bind_some]
 unfold trb ver0
 simp only [beq_self_eq_true,Bool.and_self,Bool.true_and,e4]
 rfl
theorem F8_is (x0:Int) (x1:List Int) (x2 x3:Int):F8 (x0,x1,x2,x3,()) = some (true,()):=by
 rw [F8_eq]
 obtain ⟨n,w,rv,h1,h2,h3⟩:=F10_full x0 x1
 have hn:=h2.le
 have hnp:=h2.pos
 have hl:=h2.len
 rw [h1,Option.bind_some]
 simp only
 obtain ⟨i,hi,e1⟩:=F18_is x2 w.length (by omega) (by omega)
 have e1':F18 (x2,Int.ofNat w.length,()) = some ((i:Int),()):=e1
 rw [e1',Option.bind_some]
 simp only
 rw [ge_zero,cond_true,at_in hi,Option.bind_some]
 obtain ⟨g1,g2,g3,g4⟩:=pick h2 hi
 generalize w[i] = m at g1 g2 g3 g4
 have hi7:i < 7:=by omega
 rw [g1]
 obtain ⟨mj,e3⟩:=maj_root (getD_mem hi7)
 rw [e3,Option.bind_some]
 obtain ⟨j,hj,e2⟩:=F18_is x3 m.2.1.length g2 (by omega)
 have e2':F18 (x3,Int.ofNat m.2.1.length,()) = some ((j:Int),()):=e2
 rw [e2',Option.bind_some]
 simp only
 rw [ge_zero,cond_true,at_in hj,Option.bind_some]
 have hv:=g4 j hj
 generalize m.2.1[j] = y at hv
 have hvA:=verL_mem hi7 hv
 rw [text_rel hvA,Option.bind_some]
 simp only
 have hf:lit [] ∈ sufL:=by simp [sufL]
 have hf':lit [] ∈ sufK:=by simp [sufK]
 have hx:=good_plain hi7 hf' hvA
 have hw:=made_wd h2 h3
 have hs:=where_long h2 h3 (by omega) hv hf
 rw [app_nil] at hx hs
 have hr:=(wants_one (md:=pathsL.getD i (lit [])) hw hx).1
 have hj:judge (pathsL.getD i (lit [])) (plainL (rootOf (pathsL.getD i (lit []))) (Rel.v y)) (whereOf w rv (plainL (rootOf (pathsL.getD i (lit []))) (Rel.v y))) [] = some (trb 11 (rootOf (pathsL.getD i (lit []))) (pathsL.getD i (lit [])) (Rel.v y) ver0):=by
  rw [hs]
  refine judge_main (s:=(true,pathsL.getD i (lit []),((rootOf (pathsL.getD i (lit []))).size:Int),Rel.v y)) ?_ rfl
  unfold Fnd.e
  rw [if_neg (by simp),if_neg (by simp only; omega)]
 rw [run_one,hj] at hr
 have hr':F12 (w,rv,(pathsL.getD i (lit [])),[(rootOf (pathsL.getD i (lit [])),textV (Rel.v y),(lit []),(lit []),(lit []),())],()) = some ([],[trb 11 (rootOf (pathsL.getD i (lit []))) (pathsL.getD i (lit [])) (Rel.v y) ver0],()):=hr
 rw [hr',Option.bind_some]
 exact main_end (v:=Rel.v y) (p:=pathsL.getD i (lit [])) (root:=rootOf (pathsL.getD i (lit []))) _ rfl
theorem pure_MoveMain (x0:Int) (x1:List Int) (x2 x3:Int) (h0:(Lit.int .i64 x0).wf = true) (h1:∀ x ∈ x1,(Lit.int .i64 x).wf = true) (h2:(Lit.int .i64 x2).wf = true) (h3:(Lit.int .i64 x3).wf = true):F8 (x0,x1,x2,x3,()) = some (true,()):=F8_is x0 x1 x2 x3
end Go.Vx.Z
namespace Go.Proofs.YtjkfdmdnpkblfaaGreatDoor
open Go Go.Vx Go.ChangeShapes Go.WideShapes Go.ChangeAt Go.RowKit
open Go.ChangeMaps (open_string shut_string)
set_option linter.unusedVariables false
namespace moveMain
theorem own:ownKnob Tryz.prog.godebug = none:=by kernel_rfl
theorem laidOut:laidOutB Tryz.prog = true:=by kernel_rfl
set_option maxRecDepth 100000 in
theorem lifted (os:Os) (started:os.Started) (H:Type) (enc:TypeId × Value → H) :
  ReturnsInHanded {} Tryz.checked os 8 .any (fun w args => (Rows.moveMainSpec.pre enc Tryz.prog Tryz.f8 Rows.moveMainRow.domain false w args ∧ laidMetH Tryz.prog Rows.moveMainRow.laid w) ∧ sizedMet enc Tryz.prog Tryz.f8 (OpenSpec.ofChange Rows.moveMainSpec) false w args)
   (Rows.moveMainSpec.post enc Tryz.prog Tryz.f8 false true false false):=by
 refine returnsInHanded_of_change_and (C:=Tryz.checked) (X:=fun w _ => laidMetH Tryz.prog Rows.moveMainRow.laid w) (fun _ _ _ hh h => h.of_heap hh) own started (by kernel_rfl) Tryz.func8
  (ChangeSpec.witness_shaped (enc:=enc) (C:=Tryz.checked) (os:=os) (X:=fun w _ => laidMetH Tryz.prog Rows.moveMainRow.laid w) false (World.laidAll Tryz.prog os Rows.moveMainRow.laid) #[.int .i64 0,.slice none 0 0,.int .i64 0,.int .i64 0] 8 (World.laidAll_os _ _ _)
   (World.shaped_of_ZipB (by kernel_rfl) (by kernel_rfl)) (by kernel_rfl) (by kernel_rfl) (by kernel_rfl)
   (by rw [MakeChecks.laidMetH_plain _ _ _ (by kernel_rfl)]; exact laidMet_laidAll _ (by kernel_rfl) (by kernel_rfl))) ?_
 intro W base args ds gs before hval0 hW hc hsz0 hL _
 have hsz:(DataW.weightsEach Tryz.prog (Tryz.f8.params.toList ++ Rows.moveMainSpec.plain.varTypes Tryz.prog) (ds ++ gs)).all (· ≤ reachBytes) = true:=hsz0
 have hval:∀ (j:Nat) t v,Tryz.f8.params[j]? = some t → args[j]? = some v → Value.okWide Tryz.prog W .any base t v:=hval0
 have hW':=hW
 obtain ⟨p,q,hA0,hV,rfl,hfz,hnd⟩:=hW
 have hA:DataW.TrodAll enc Tryz.prog W 0 (fun _ => true) true Tryz.f8.params.toList args.toList ds p:=hA0
 rw [Tryz.params8] at hA hval hsz
 obtain ⟨v0,vs0,d0,ds0,p0,q0,hargs,rfl,rfl,h0,r0⟩:=trodAll_cons hA
 obtain ⟨v1,vs1,d1,ds1,p1,q1,rfl,rfl,rfl,h1,r1⟩:=trodAll_cons r0
 obtain ⟨v2,vs2,d2,ds2,p2,q2,rfl,rfl,rfl,h2,r2⟩:=trodAll_cons r1
 obtain ⟨v3,vs3,d3,ds3,p3,q3,rfl,rfl,rfl,h3,r3⟩:=trodAll_cons r2
 obtain ⟨rfl,rfl,rfl⟩:=trodAll_nil r3
 obtain rfl:args = #[v0,v1,v2,v3]:=by cases args; simp_all
 obtain ⟨rfl,rfl⟩:=trodVars_none hV
 obtain ⟨a0,rfl,rfl,rfl,w0⟩:=open_int Tryz.underlying3 (hval 0 3 v0 rfl rfl) h0
 obtain ⟨a1,len1,cap1,rfl⟩:=okWide_slice Tryz.underlying22 (hval 1 22 v1 rfl rfl)
 have k1:=h1
 have lt1:∀ x ∈ p1,x.block < W.heap.size:=by obtain ⟨m,hm⟩:=k1; exact DataW.trod_lt m _ _ _ hm
 obtain ⟨z1,w1⟩:∃ zs,IsRow .i64 W a1 len1 cap1 zs:=by
  obtain ⟨fuel,hf⟩:=h1
  rcases open_ints Tryz.underlying22 Tryz.underlying3 (by kernel_rfl) hf with ⟨hcs,_⟩ | ⟨x,l,c,zs,hcs,_,hl,hm,hz,_,hcell,hwz⟩
  ·simp [Value.cells] at hcs
   obtain ⟨rfl,rfl,rfl⟩:=hcs
   exact ⟨[],.inl ⟨rfl,rfl,rfl,rfl⟩⟩
  ·simp [Value.cells] at hcs
   obtain ⟨rfl,rfl,rfl⟩:=hcs
   exact ⟨zs,.inr ⟨_,rfl,hl,hm,by simpa using hz,hcell,hwz⟩⟩
 have wf1:∀ x ∈ z1.take len1,(Lit.int .i64 x).wf = true:=by
  rcases w1 with ⟨_,_,_,rfl⟩ | ⟨_,_,_,_,_,_,hwf⟩
  ·simp
  ·exact fun x hx => hwf x (List.mem_of_mem_take hx)
 obtain ⟨a2,rfl,rfl,rfl,w2⟩:=open_int Tryz.underlying3 (hval 2 3 v2 rfl rfl) h2
 obtain ⟨a3,rfl,rfl,rfl,w3⟩:=open_int Tryz.underlying3 (hval 3 3 v3 rfl rfl) h3
 clear hA0 hval0 hsz0 hsz
 have hst:∀ y,(RowS a1 z1.length y) → y.spot = none ∧ ∃ v,W.cell? y = some v:=by
  intro y hy
  exact isRow_st w1 hy
 have hL1:laidMet Tryz.prog Rows.moveMainRow.laid W:=by rw [← MakeChecks.laidMetH_plain _ _ _ (by kernel_rfl)]; exact hL
 have hG:=ground_of_laid hL1 (List.mem_cons_of_mem _ (List.mem_cons_of_mem _ List.mem_cons_self)) (by kernel_rfl) (g:=3) (t:=345) (n:=20) (e:=199) (by kernel_rfl) (by kernel_rfl) Tryz.underlying345 Tryz.underlying199 (by kernel_rfl) (by kernel_rfl)
 refine (law_calls (Go.Vx.Z.ok8) rfl (enters_of Tryz.func8 (by kernel_rfl) rfl) hG.1 hG.2 (S:=fun y => RowS a1 z1.length y) hst (a0,(z1.take len1),a2,a3,()) (Go.Vx.Z.pure_MoveMain a0 (z1.take len1) a2 a3 w0 wf1 w2 w3) rfl (fun i => ?_)).mono fun e W' ⟨he,bel⟩ => ?_
 ·match i with
  | 0 => exact rfl
  | 1 => exact isRow_rep w1 (fun y hy => hy)
  | 2 => exact rfl
  | 3 => exact rfl
  | i + 4 => trivial
 subst he
 exact ⟨_,rfl,_,_,_,[],_,[],hW',trodAll_mk1 (shut_bool Tryz.underlying4 _),(trodAll_cons_mk (shut_int Tryz.underlying3 w0) (trodAll_cons_mk (Below.trod laidOut (by kernel_rfl) (of_decide_eq_true (by kernel_rfl)) k1 bel lt1) (trodAll_cons_mk (shut_int Tryz.underlying3 w2) (trodAll_cons_mk (shut_int Tryz.underlying3 w3) trodAll_mk0)))),rfl,bel.frame _,fun h => by cases h⟩
theorem and2 {a b:Bool} (h:a = true) (k:b = true):(a && b) = true:=by rw [h,k]; rfl
set_option maxHeartbeats 40000000
theorem joined:joinedFacts Tryz.prog 8 Tryz.f8 Rows.moveMainSpec Rows.moveMainRow = true:=by
 unfold joinedFacts
 repeat' with_reducible refine and2 ?_ ?_
 all_goals as_aux_lemma => kernel_rfl
theorem holds:Rows.MoveMainSaid:=
 OpenClaim.holds_of_wide 8 Tryz.f8 rfl rfl rfl rfl rfl rfl rfl ⟨rfl,rfl,rfl,rfl,rfl⟩ rfl rfl rfl rfl rfl (by as_aux_lemma => kernel_rfl) Tryz.func8 joined
  (of_decide_eq_true (by as_aux_lemma => kernel_rfl)) (by unfold Func.isWrapper; first | (rw [if_pos (by decide +kernel)]; kernel_rfl) | (rw [if_neg (by decide +kernel)]; exact ⟨rfl,rfl⟩))
  (fun os started H enc _ => lifted os started H enc)
theorem card_holds:Rows.MoveMainCardSaid:=
 Claim7.holds_tied_plain_at .later [] [.data, .data, .data, .data, .pinned] true (true, "e3fafb3cf7f5ac5126bf0d8721f292267cb5b60b099b1ec88e43ceadb87e0fb6") false holds (fun _ h => by cases h) (by as_aux_lemma => kernel_rfl) (fun _ h => by cases h) moveMain_row_tie rfl ⟨rfl, rfl⟩ (by as_aux_lemma => kernel_rfl) rfl
  (fun f fn hf hfn => by
   obtain rfl : f = 8 := Option.some.inj ((show Tryz.prog.funcNamed "transhumance/transhumancelaw11.MoveMain" = some 8 by as_aux_lemma => kernel_rfl).symm.trans hf) |>.symm
   obtain rfl:fn = Tryz.f8:=(Option.some.inj (Tryz.func8.symm.trans hfn)).symm
   exact ⟨by as_aux_lemma => kernel_rfl,fun j t ht => by
    rw [Tryz.params8] at ht
    have hm:t ∈ [3,22,3,3]:=by simpa using Array.mem_of_getElem? ht
    have hall:([3,22,3,3].all fun u => !Tryz.prog.wantsStandIn u) = true:=by as_aux_lemma => kernel_rfl
    exact (show Tryz.prog.wantsStandIn t = false by simpa using List.all_eq_true.1 hall t hm)⟩)
  (by as_aux_lemma => kernel_rfl)
end moveMain
end Go.Proofs.YtjkfdmdnpkblfaaGreatDoor
