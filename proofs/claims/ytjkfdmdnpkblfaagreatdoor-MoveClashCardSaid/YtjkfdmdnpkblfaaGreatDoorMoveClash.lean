/- Two locks of one module at two versions clash, whichever comes first; at one they do not. -/
import Derived.Test.YtjkfdmdnpkblfaaGreatDoorV6
import Derived.Test.YtjkfdmdnpkblfaaGreatDoorV2
import Derived.Test.YtjkfdmdnpkblfaaGreatDoorRows
import Derived.Test.YtjkfdmdnpkblfaaGreatDoorTie
import Derived.Test.YtjkfdmdnpkblfaaGreatDoorCards
import Derived.WalkKit
import Derived.ProofKit
import Derived.OpenShut
import Derived.ShutString
import Derived.ChangeOld
import Derived.Below
import Derived.SizedLaws
import Derived.LaidMore
import Derived.Lay
import Derived.SevenTiedAt
import Derived.Stop.Joined
import Derived.KernelRfl
set_option linter.unusedSimpArgs false
/-! Two locks of one module at two versions clash, whichever comes first; at one they do not. -/
namespace Go.Vx.Z
open Go Go.Vx
set_option linter.unusedVariables false
set_option maxRecDepth 100000
theorem rel_beq_ne {s y:Ver} (h:s ≠ y):(s.1 == y.1 && (s.2.1 == y.2.1 && (s.2.2.1 == y.2.2.1 && bl s.2.2.2.1 == bl y.2.2.2.1))) = false:=by
 rw [beq_bs]
 cases hb:(s.1 == y.1 && (s.2.1 == y.2.1 && (s.2.2.1 == y.2.2.1 && bs s.2.2.2.1 == bs y.2.2.2.1))) with
 | false => rfl
 | true => exact absurd (eqV_iff.1 hb) h
def wantP (p:ByteArray) (v:Ver):Want:=(p,v.1,v.2.1,v.2.2.1,v.2.2.2.1,lit [],0,0,0,lit [],())
theorem eq_wantP {p:ByteArray} {u v:Ver}:eqW (wantP p u) (wantP p v) = true ↔ u = v:=by
 rw [eqW_iff]
 constructor
 ·intro h
  unfold wantP at h
  obtain ⟨u1,u2,u3,u4,⟨⟩⟩:=u
  obtain ⟨v1,v2,v3,v4,⟨⟩⟩:=v
  simp only [Prod.mk.injEq,true_and,and_true] at h
  obtain ⟨a,b,c,d⟩:=h
  rw [a,b,c,d]
 ·rintro rfl; rfl
theorem run_two {w:List Mod} {rv:List Rev} {r1 r2 p:ByteArray} {u v:Ver} {len:Int} (hlen:0 ≤ len) (hp:p ∈ pathsL)
  (h1:whereOf w rv (plainL r1 u) = (true,p,len,u)) (h2:whereOf w rv (plainL r2 v) = (true,p,len,v)) :
  runP w rv (lit [109,97,105,110]) [plainL r1 u,plainL r2 v] = ([wantP p u],if u = v then [] else [trb 11 r2 p v u]):=by
 have he:∀ z:Ver,Fnd.e (true,p,len,z) = 0:=fun z => by
  unfold Fnd.e
  rw [if_neg (by simp),if_neg (by simp only; omega)]
 have hm:=(path_main hp).1
 have s1:runP w rv (lit [109,97,105,110]) [plainL r1 u] = ([wantP p u],[]):=by
  rw [run_one,h1,judge_plain (he u) hm,want_plain]
  rfl
 have s2:runP w rv (lit [109,97,105,110]) [plainL r1 u,plainL r2 v] = stepP w rv (lit [109,97,105,110]) (runP w rv (lit [109,97,105,110]) [plainL r1 u]) (plainL r2 v):=rfl
 rw [s2,s1]
 unfold stepP
 rw [h2,judge_plain (he v) hm,want_plain]
 have hf:[wantP p u].find? (sameP p) = some (wantP p u):=by
  rw [List.find?_cons]
  have:sameP p (wantP p u) = true:=by unfold sameP wantP; simp
  rw [this]
 simp only
 rw [hf,Option.bind_some]
 have hq:eqW (wantP p u) (p,v.1,v.2.1,v.2.2.1,v.2.2.2.1,lit [],0,0,0,lit [],()) = true ↔ u = v:=eq_wantP
 by_cases huv:u = v
 ·rw [if_pos (hq.2 huv),if_pos huv]
  rfl
 ·rw [if_neg (fun h => huv (hq.1 h)),if_neg huv]
  rfl
theorem clash_end {u v:Ver} {p r2:ByteArray} (R:List Want × List Trb) (hf:fitsS r2 (lit [47,121]) = true) (hR:R = ([wantP p u],if u = v then [] else [trb 11 (r2 ++ lit [47,121]) p v u])) :
  (bif u.1 == v.1 && (u.2.1 == v.2.1 && (u.2.2.1 == v.2.2.1 && bl u.2.2.2.1 == bl v.2.2.2.1)) then bif Int.ofNat (List.length R.1) == Int.ofNat 1 then some (Int.ofNat (List.length R.2) == Int.ofNat 0,()) else some (false,()) else bif Int.ofNat (List.length R.1) == Int.ofNat 1 then Option.bind R.1[0]? fun y_3 => bif y_3.2.1 == u.1 && (y_3.2.2.1 == u.2.1 && (y_3.2.2.2.1 == u.2.2.1 && bl y_3.2.2.2.2.1 == bl u.2.2.2.1)) then bif Int.ofNat (List.length R.2) == Int.ofNat 1 then Option.bind R.2[0]? fun y_4 => bif fitsS r2 (lit [47,121]) then some (y_4.1 == Int.ofNat 11 && (bl y_4.2.1 == bl (r2 ++ (lit [47,121])) && (bl y_4.2.2.1 == bl p && (y_4.2.2.2.1 == v.1 && (y_4.2.2.2.2.1 == v.2.1 && (y_4.2.2.2.2.2.1 == v.2.2.1 && bl y_4.2.2.2.2.2.2.1 == bl v.2.2.2.1)) && (y_4.2.2.2.2.2.2.2.1 == u.1 && (y_4.2.2.2.2.2.2.2.2.1 == u.2.1 && (y_4.2.2.2.2.2.2.2.2.2.1 == u.2.2.1 && bl y_4.2.2.2.2.2.2.2.2.2.2.1 == bl u.2.2.2.1)))))),()) else none else some (false,()) else some (false,()) else some (false,())) = some (true,()):=by
 subst hR
 by_cases huv:u = v
 ·rw [rel_beq huv,if_pos huv]
  rfl
 ·rw [rel_beq_ne huv,if_neg huv,hf]
  have e1:(Int.ofNat (List.length [wantP p u]) == Int.ofNat 1) = true:=rfl
  have e2:(Int.ofNat (List.length [trb 11 (r2 ++ lit [47,121]) p v u]) == Int.ofNat 1) = true:=rfl
  have e3:[trb 11 (r2 ++ lit [47,121]) p v u][0]? = some (trb 11 (r2 ++ lit [47,121]) p v u):=rfl
  have e4:[wantP p u][0]? = some (wantP p u):=rfl
  simp only
  rw [e1,e2,e3,e4]
  simp only [cond_true,cond_false,Option.bind_some]
  unfold trb wantP
  simp only [beq_self_eq_true,Bool.and_self,cond_true]
  rfl
theorem F7_is (x0:Int) (x1:List Int) (x2 x3 x4:Int):F7 (x0,x1,x2,x3,x4,()) = some (true,()):=by
 rw [F7_eq]
 obtain ⟨n,w,rv,h1,h2,h3⟩:=F10_full x0 x1
 have hn:=h2.le
 have hnp:=h2.pos
 have hl:=h2.len
 rw [h1,Option.bind_some]
 simp only
 obtain ⟨i,hi,e1⟩:=F18_is x2 w.length (by omega) (by omega)
 have e1':F18 (x2,Int.ofNat w.length,()) = some ((i:Int),()):=e1
 rw [e1',Option.bind_some]
 simp only
 rw [ge_zero,cond_true,at_in hi,Option.bind_some]
 obtain ⟨g1,g2,g3,g4⟩:=pick h2 hi
 generalize w[i] = m at g1 g2 g3 g4
 have hi7:i < 7:=by omega
 rw [g1]
 obtain ⟨mj,e3⟩:=maj_root (getD_mem hi7)
 rw [e3,Option.bind_some]
 obtain ⟨j,hj,e2⟩:=F18_is x3 m.2.1.length g2 (by omega)
 have e2':F18 (x3,Int.ofNat m.2.1.length,()) = some ((j:Int),()):=e2
 rw [e2',Option.bind_some]
 simp only
 rw [ge_zero,cond_true,at_in hj,Option.bind_some]
 obtain ⟨k,hk,e4⟩:=F18_is x4 m.2.1.length g2 (by omega)
 have e4':F18 (x4,Int.ofNat m.2.1.length,()) = some ((k:Int),()):=e4
 rw [e4',Option.bind_some]
 simp only
 rw [ge_zero,cond_true,at_in hk,Option.bind_some]
 have hv:=g4 j hj
 have hu:=g4 k hk
 generalize m.2.1[j] = y at hv
 generalize m.2.1[k] = z at hu
 have hvA:=verL_mem hi7 hv
 have huA:=verL_mem hi7 hu
 have hfx:lit [47,120] ∈ sufL:=by simp [sufL]
 have hfy:lit [47,121] ∈ sufL:=by simp [sufL]
 have hfx':lit [47,120] ∈ sufK:=by simp [sufK]
 have hfy':lit [47,121] ∈ sufK:=by simp [sufK]
 have hfit:=fitsS_is (root_own hi7) hfy'
 rw [fitsS_is (root_own hi7) hfx',cond_true,text_rel hvA,Option.bind_some]
 simp only
 rw [text_rel huA]
 have hX:=good_plain hi7 hfx' hvA
 have hY:=good_plain hi7 hfy' huA
 have hw:=made_wd h2 h3
 have s1:=where_long h2 h3 (by omega) hv hfx
 have s2:=where_long h2 h3 (by omega) hu hfy
 have hrun:=run_two (by omega) (getD_mem hi7) s1 s2
 obtain ⟨R,a1,a2,a3⟩:=wants_same (md:=lit [109,97,105,110]) (l:=[plainL (rootOf (pathsL.getD i (lit [])) ++ lit [47,120]) (Rel.v y),plainL (rootOf (pathsL.getD i (lit [])) ++ lit [47,121]) (Rel.v z)]) hw (fun q hq => by
  rcases List.mem_cons.1 hq with rfl | hq
  ·exact hX
  ·rw [List.mem_singleton.1 hq]; exact hY) (by simp)
 rw [hrun] at a3
 have hR:=rel_one a3
 have a1':F12 (w,rv,(lit [109,97,105,110]),[(rootOf (pathsL.getD i (lit [])) ++ (lit [47,120]),textV (Rel.v y),(lit []),(lit []),(lit []),()),(rootOf (pathsL.getD i (lit [])) ++ (lit [47,121]),textV (Rel.v z),(lit []),(lit []),(lit []),())],()) = some (R.1,R.2,()):=a1
 have hend:=clash_end (u:=Rel.v y) (v:=Rel.v z) (p:=pathsL.getD i (lit [])) (r2:=rootOf (pathsL.getD i (lit []))) R hfit hR
 rw [hfit] at hend ⊢
 simp only [cond_true,Option.bind_some] at hend ⊢
 rw [a1',Option.bind_some]
 exact hend
theorem pure_MoveClash (x0:Int) (x1:List Int) (x2 x3 x4:Int) (h0:(Lit.int .i64 x0).wf = true) (h1:∀ x ∈ x1,(Lit.int .i64 x).wf = true) (h2:(Lit.int .i64 x2).wf = true) (h3:(Lit.int .i64 x3).wf = true) (h4:(Lit.int .i64 x4).wf = true):F7 (x0,x1,x2,x3,x4,()) = some (true,()):=F7_is x0 x1 x2 x3 x4
end Go.Vx.Z
namespace Go.Proofs.YtjkfdmdnpkblfaaGreatDoor
open Go Go.Vx Go.ChangeShapes Go.WideShapes Go.ChangeAt Go.RowKit
open Go.ChangeMaps (open_string shut_string)
set_option linter.unusedVariables false
namespace moveClash
theorem own:ownKnob Tryz.prog.godebug = none:=by kernel_rfl
theorem laidOut:laidOutB Tryz.prog = true:=by kernel_rfl
set_option maxRecDepth 100000 in
theorem lifted (os:Os) (started:os.Started) (H:Type) (enc:TypeId × Value → H) :
  ReturnsInHanded {} Tryz.checked os 7 .any (fun w args => (Rows.moveClashSpec.pre enc Tryz.prog Tryz.f7 Rows.moveClashRow.domain false w args ∧ laidMetH Tryz.prog Rows.moveClashRow.laid w) ∧ sizedMet enc Tryz.prog Tryz.f7 (OpenSpec.ofChange Rows.moveClashSpec) false w args)
   (Rows.moveClashSpec.post enc Tryz.prog Tryz.f7 false true false false):=by
 refine returnsInHanded_of_change_and (C:=Tryz.checked) (X:=fun w _ => laidMetH Tryz.prog Rows.moveClashRow.laid w) (fun _ _ _ hh h => h.of_heap hh) own started (by kernel_rfl) Tryz.func7
  (ChangeSpec.witness_shaped (enc:=enc) (C:=Tryz.checked) (os:=os) (X:=fun w _ => laidMetH Tryz.prog Rows.moveClashRow.laid w) false (World.laidAll Tryz.prog os Rows.moveClashRow.laid) #[.int .i64 0,.slice none 0 0,.int .i64 0,.int .i64 0,.int .i64 0] 8 (World.laidAll_os _ _ _)
   (World.shaped_of_ZipB (by kernel_rfl) (by kernel_rfl)) (by kernel_rfl) (by kernel_rfl) (by kernel_rfl)
   (by rw [MakeChecks.laidMetH_plain _ _ _ (by kernel_rfl)]; exact laidMet_laidAll _ (by kernel_rfl) (by kernel_rfl))) ?_
 intro W base args ds gs before hval0 hW hc hsz0 hL _
 have hsz:(DataW.weightsEach Tryz.prog (Tryz.f7.params.toList ++ Rows.moveClashSpec.plain.varTypes Tryz.prog) (ds ++ gs)).all (· ≤ reachBytes) = true:=hsz0
 have hval:∀ (j:Nat) t v,Tryz.f7.params[j]? = some t → args[j]? = some v → Value.okWide Tryz.prog W .any base t v:=hval0
 have hW':=hW
 obtain ⟨p,q,hA0,hV,rfl,hfz,hnd⟩:=hW
 have hA:DataW.TrodAll enc Tryz.prog W 0 (fun _ => true) true Tryz.f7.params.toList args.toList ds p:=hA0
 rw [Tryz.params7] at hA hval hsz
 obtain ⟨v0,vs0,d0,ds0,p0,q0,hargs,rfl,rfl,h0,r0⟩:=trodAll_cons hA
 obtain ⟨v1,vs1,d1,ds1,p1,q1,rfl,rfl,rfl,h1,r1⟩:=trodAll_cons r0
 obtain ⟨v2,vs2,d2,ds2,p2,q2,rfl,rfl,rfl,h2,r2⟩:=trodAll_cons r1
 obtain ⟨v3,vs3,d3,ds3,p3,q3,rfl,rfl,rfl,h3,r3⟩:=trodAll_cons r2
 obtain ⟨v4,vs4,d4,ds4,p4,q4,rfl,rfl,rfl,h4,r4⟩:=trodAll_cons r3
 obtain ⟨rfl,rfl,rfl⟩:=trodAll_nil r4
 obtain rfl:args = #[v0,v1,v2,v3,v4]:=by cases args; simp_all
 obtain ⟨rfl,rfl⟩:=trodVars_none hV
 obtain ⟨a0,rfl,rfl,rfl,w0⟩:=open_int Tryz.underlying3 (hval 0 3 v0 rfl rfl) h0
 obtain ⟨a1,len1,cap1,rfl⟩:=okWide_slice Tryz.underlying22 (hval 1 22 v1 rfl rfl)
 have k1:=h1
 have lt1:∀ x ∈ p1,x.block < W.heap.size:=by obtain ⟨m,hm⟩:=k1; exact DataW.trod_lt m _ _ _ hm
 obtain ⟨z1,w1⟩:∃ zs,IsRow .i64 W a1 len1 cap1 zs:=by
  obtain ⟨fuel,hf⟩:=h1
  rcases open_ints Tryz.underlying22 Tryz.underlying3 (by kernel_rfl) hf with ⟨hcs,_⟩ | ⟨x,l,c,zs,hcs,_,hl,hm,hz,_,hcell,hwz⟩
  ·simp [Value.cells] at hcs
   obtain ⟨rfl,rfl,rfl⟩:=hcs
   exact ⟨[],.inl ⟨rfl,rfl,rfl,rfl⟩⟩
  ·simp [Value.cells] at hcs
   obtain ⟨rfl,rfl,rfl⟩:=hcs
   exact ⟨zs,.inr ⟨_,rfl,hl,hm,by simpa using hz,hcell,hwz⟩⟩
 have wf1:∀ x ∈ z1.take len1,(Lit.int .i64 x).wf = true:=by
  rcases w1 with ⟨_,_,_,rfl⟩ | ⟨_,_,_,_,_,_,hwf⟩
  ·simp
  ·exact fun x hx => hwf x (List.mem_of_mem_take hx)
 obtain ⟨a2,rfl,rfl,rfl,w2⟩:=open_int Tryz.underlying3 (hval 2 3 v2 rfl rfl) h2
 obtain ⟨a3,rfl,rfl,rfl,w3⟩:=open_int Tryz.underlying3 (hval 3 3 v3 rfl rfl) h3
 obtain ⟨a4,rfl,rfl,rfl,w4⟩:=open_int Tryz.underlying3 (hval 4 3 v4 rfl rfl) h4
 clear hA0 hval0 hsz0 hsz
 have hst:∀ y,(RowS a1 z1.length y) → y.spot = none ∧ ∃ v,W.cell? y = some v:=by
  intro y hy
  exact isRow_st w1 hy
 have hL1:laidMet Tryz.prog Rows.moveClashRow.laid W:=by rw [← MakeChecks.laidMetH_plain _ _ _ (by kernel_rfl)]; exact hL
 have hG:=ground_of_laid hL1 (List.mem_cons_of_mem _ (List.mem_cons_of_mem _ List.mem_cons_self)) (by kernel_rfl) (g:=3) (t:=345) (n:=20) (e:=199) (by kernel_rfl) (by kernel_rfl) Tryz.underlying345 Tryz.underlying199 (by kernel_rfl) (by kernel_rfl)
 refine (law_calls (Go.Vx.Z.ok7) rfl (enters_of Tryz.func7 (by kernel_rfl) rfl) hG.1 hG.2 (S:=fun y => RowS a1 z1.length y) hst (a0,(z1.take len1),a2,a3,a4,()) (Go.Vx.Z.pure_MoveClash a0 (z1.take len1) a2 a3 a4 w0 wf1 w2 w3 w4) rfl (fun i => ?_)).mono fun e W' ⟨he,bel⟩ => ?_
 ·match i with
  | 0 => exact rfl
  | 1 => exact isRow_rep w1 (fun y hy => hy)
  | 2 => exact rfl
  | 3 => exact rfl
  | 4 => exact rfl
  | i + 5 => trivial
 subst he
 exact ⟨_,rfl,_,_,_,[],_,[],hW',trodAll_mk1 (shut_bool Tryz.underlying4 _),(trodAll_cons_mk (shut_int Tryz.underlying3 w0) (trodAll_cons_mk (Below.trod laidOut (by kernel_rfl) (of_decide_eq_true (by kernel_rfl)) k1 bel lt1) (trodAll_cons_mk (shut_int Tryz.underlying3 w2) (trodAll_cons_mk (shut_int Tryz.underlying3 w3) (trodAll_cons_mk (shut_int Tryz.underlying3 w4) trodAll_mk0))))),rfl,bel.frame _,fun h => by cases h⟩
theorem and2 {a b:Bool} (h:a = true) (k:b = true):(a && b) = true:=by rw [h,k]; rfl
set_option maxHeartbeats 40000000
theorem joined:joinedFacts Tryz.prog 7 Tryz.f7 Rows.moveClashSpec Rows.moveClashRow = true:=by
 unfold joinedFacts
 repeat' with_reducible refine and2 ?_ ?_
 all_goals as_aux_lemma => kernel_rfl
theorem holds:Rows.MoveClashSaid:=
 OpenClaim.holds_of_wide 7 Tryz.f7 rfl rfl rfl rfl rfl rfl rfl ⟨rfl,rfl,rfl,rfl,rfl⟩ rfl rfl rfl rfl rfl (by as_aux_lemma => kernel_rfl) Tryz.func7 joined
  (of_decide_eq_true (by as_aux_lemma => kernel_rfl)) (by unfold Func.isWrapper; first | (rw [if_pos (by decide +kernel)]; kernel_rfl) | (rw [if_neg (by decide +kernel)]; exact ⟨rfl,rfl⟩))
  (fun os started H enc _ => lifted os started H enc)
theorem card_holds:Rows.MoveClashCardSaid:=
 Claim7.holds_tied_plain_at .later [] [.data, .data, .data, .data, .pinned] true (true, "e3fafb3cf7f5ac5126bf0d8721f292267cb5b60b099b1ec88e43ceadb87e0fb6") false holds (fun _ h => by cases h) (by as_aux_lemma => kernel_rfl) (fun _ h => by cases h) moveClash_row_tie rfl ⟨rfl, rfl⟩ (by as_aux_lemma => kernel_rfl) rfl
  (fun f fn hf hfn => by
   obtain rfl : f = 7 := Option.some.inj ((show Tryz.prog.funcNamed "transhumance/transhumancelaw11.MoveClash" = some 7 by as_aux_lemma => kernel_rfl).symm.trans hf) |>.symm
   obtain rfl:fn = Tryz.f7:=(Option.some.inj (Tryz.func7.symm.trans hfn)).symm
   exact ⟨by as_aux_lemma => kernel_rfl,fun j t ht => by
    rw [Tryz.params7] at ht
    have hm:t ∈ [3,22,3,3,3]:=by simpa using Array.mem_of_getElem? ht
    have hall:([3,22,3,3,3].all fun u => !Tryz.prog.wantsStandIn u) = true:=by as_aux_lemma => kernel_rfl
    exact (show Tryz.prog.wantsStandIn t = false by simpa using List.all_eq_true.1 hall t hm)⟩)
  (by as_aux_lemma => kernel_rfl)
end moveClash
end Go.Proofs.YtjkfdmdnpkblfaaGreatDoor
