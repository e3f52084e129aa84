/- Of any world, any locks what is wanted, what is troubled, is the document's. -/
import Derived.Test.YtjkfdmdnpkblfaaGreatDoorV6
import Derived.Test.YtjkfdmdnpkblfaaGreatDoorV2
import Derived.Test.YtjkfdmdnpkblfaaGreatDoorRows
import Derived.Test.YtjkfdmdnpkblfaaGreatDoorTie
import Derived.Test.YtjkfdmdnpkblfaaGreatDoorCards
import Derived.Test.YtjkfdmdnpkblfaaGreatDoorV5
import Derived.WalkKit
import Derived.ProofKit
import Derived.OpenShut
import Derived.ShutString
import Derived.ChangeOld
import Derived.Below
import Derived.SizedLaws
import Derived.LaidMore
import Derived.Lay
import Derived.SevenTiedAt
import Derived.Stop.Joined
import Derived.KernelRfl
set_option linter.unusedSimpArgs false
/-! Of any world, any locks what is wanted, what is troubled, is the document's. -/
namespace Go.Vx.Z
open Go Go.Vx
set_option linter.unusedVariables false
set_option maxRecDepth 100000
theorem F11_is {n:Nat} {w:List Mod} {rv:List Rev} (h:Made n w) (hrv:rv = revsL n) (ns:List Int):∃ l,F11 (w,rv,ns,()) = some (l,()) ∧ LockInv 7 l:=by
 rw [F11_eq]
 obtain ⟨l,h1,h2⟩:=loop_upto (B:=B11_1) (min ns.length 7) (fun i (l:List Lock) => (ns,(i:Int),w,rv,l,())) (fun l => (l,())) (fun i l => LockInv i l) (by
   intro i hi l hl
   exact B11_1_is h hrv ns i (by omega) (by omega) l hl) (by
   intro l hl
   rw [B11_1_eq]
   by_cases h7:ns.length ≤ 7
   ·rw [Nat.min_eq_left h7,lt_out]; rfl
   ·rw [Nat.min_eq_right (by omega),lt_in (show 7 < ns.length by omega)]
    rfl) 0 [] (by omega) ⟨Nat.le_refl _,fun x hx => by simp at hx,.nil⟩
 have h1':loop B11_1 (ns,Int.ofNat 0,w,rv,[],()) = some (l,()):=h1
 rw [h1',Option.bind_some]
 exact ⟨l,rfl,by have:=h2.len; omega,h2.good,h2.apart⟩
theorem relW_len {w:List Mod} {rv:List Rev} {md:ByteArray} {l:List Lock} {R:List Want × List Trb} (h:RelW (runP w rv md l) R) (hl:l.length ≤ 900):R.1.length ≤ 900 ∧ R.2.length ≤ 900:=by
 have hb:=fold_len (w:=w) (rv:=rv) (md:=md) l ([],[])
 simp only [List.length_nil] at hb
 have h1:=h.perm.length_eq
 have h2:=congrArg List.length h.trb
 unfold runP at h1 h2
 omega
theorem F3_is (x0:Int) (x1 x2:List Int) (x3:Int):F3 (x0,x1,x2,x3,()) = some (true,()):=by
 rw [F3_eq]
 obtain ⟨n,w,rv,h1,h2,h3⟩:=F10_full x0 x1
 obtain ⟨l,h4,h5⟩:=F11_is h2 h3 x2
 obtain ⟨md,h6⟩:=F13_is x3
 have hl:=h5.len
 obtain ⟨R,g1,g2,g3⟩:=wants_same (md:=md) (made_wd h2 h3) h5.good (by omega)
 obtain ⟨r1,r2⟩:=relW_len g3 (by omega)
 rw [h1,Option.bind_some]
 simp only
 rw [h4,Option.bind_some,h6,Option.bind_some]
 simp only
 rw [g1,Option.bind_some,Option.bind_some]
 simp only
 rw [g2,Option.bind_some]
 simp only
 rw [F16_is R.1 (by omega),Option.bind_some]
 simp only
 rw [F15_is R.1 (by omega),Option.bind_some,cond_true,F17_is R.2 (by omega),Option.bind_some]
theorem pure_MoveWants (x0:Int) (x1 x2:List Int) (x3:Int) (h0:(Lit.int .i64 x0).wf = true) (h1:∀ x ∈ x1,(Lit.int .i64 x).wf = true) (h2:∀ x ∈ x2,(Lit.int .i64 x).wf = true) (h3:(Lit.int .i64 x3).wf = true):F3 (x0,x1,x2,x3,()) = some (true,()):=F3_is x0 x1 x2 x3
end Go.Vx.Z
namespace Go.Proofs.YtjkfdmdnpkblfaaGreatDoor
open Go Go.Vx Go.ChangeShapes Go.WideShapes Go.ChangeAt Go.RowKit
open Go.ChangeMaps (open_string shut_string)
set_option linter.unusedVariables false
namespace moveWants
theorem own:ownKnob Tryz.prog.godebug = none:=by kernel_rfl
theorem laidOut:laidOutB Tryz.prog = true:=by kernel_rfl
set_option maxRecDepth 100000 in
theorem lifted (os:Os) (started:os.Started) (H:Type) (enc:TypeId × Value → H) :
  ReturnsInHanded {} Tryz.checked os 3 .any (fun w args => (Rows.moveWantsSpec.pre enc Tryz.prog Tryz.f3 Rows.moveWantsRow.domain false w args ∧ laidMetH Tryz.prog Rows.moveWantsRow.laid w) ∧ sizedMet enc Tryz.prog Tryz.f3 (OpenSpec.ofChange Rows.moveWantsSpec) false w args)
   (Rows.moveWantsSpec.post enc Tryz.prog Tryz.f3 false true false false):=by
 refine returnsInHanded_of_change_and (C:=Tryz.checked) (X:=fun w _ => laidMetH Tryz.prog Rows.moveWantsRow.laid w) (fun _ _ _ hh h => h.of_heap hh) own started (by kernel_rfl) Tryz.func3
  (ChangeSpec.witness_shaped (enc:=enc) (C:=Tryz.checked) (os:=os) (X:=fun w _ => laidMetH Tryz.prog Rows.moveWantsRow.laid w) false (World.laidAll Tryz.prog os Rows.moveWantsRow.laid) #[.int .i64 0,.slice none 0 0,.slice none 0 0,.int .i64 0] 8 (World.laidAll_os _ _ _)
   (World.shaped_of_ZipB (by kernel_rfl) (by kernel_rfl)) (by kernel_rfl) (by kernel_rfl) (by kernel_rfl)
   (by rw [MakeChecks.laidMetH_plain _ _ _ (by kernel_rfl)]; exact laidMet_laidAll _ (by kernel_rfl) (by kernel_rfl))) ?_
 intro W base args ds gs before hval0 hW hc hsz0 hL _
 have hsz:(DataW.weightsEach Tryz.prog (Tryz.f3.params.toList ++ Rows.moveWantsSpec.plain.varTypes Tryz.prog) (ds ++ gs)).all (· ≤ reachBytes) = true:=hsz0
 have hval:∀ (j:Nat) t v,Tryz.f3.params[j]? = some t → args[j]? = some v → Value.okWide Tryz.prog W .any base t v:=hval0
 have hW':=hW
 obtain ⟨p,q,hA0,hV,rfl,hfz,hnd⟩:=hW
 have hA:DataW.TrodAll enc Tryz.prog W 0 (fun _ => true) true Tryz.f3.params.toList args.toList ds p:=hA0
 rw [Tryz.params3] at hA hval hsz
 obtain ⟨v0,vs0,d0,ds0,p0,q0,hargs,rfl,rfl,h0,r0⟩:=trodAll_cons hA
 obtain ⟨v1,vs1,d1,ds1,p1,q1,rfl,rfl,rfl,h1,r1⟩:=trodAll_cons r0
 obtain ⟨v2,vs2,d2,ds2,p2,q2,rfl,rfl,rfl,h2,r2⟩:=trodAll_cons r1
 obtain ⟨v3,vs3,d3,ds3,p3,q3,rfl,rfl,rfl,h3,r3⟩:=trodAll_cons r2
 obtain ⟨rfl,rfl,rfl⟩:=trodAll_nil r3
 obtain rfl:args = #[v0,v1,v2,v3]:=by cases args; simp_all
 obtain ⟨rfl,rfl⟩:=trodVars_none hV
 obtain ⟨a0,rfl,rfl,rfl,w0⟩:=open_int Tryz.underlying3 (hval 0 3 v0 rfl rfl) h0
 obtain ⟨a1,len1,cap1,rfl⟩:=okWide_slice Tryz.underlying22 (hval 1 22 v1 rfl rfl)
 have k1:=h1
 have lt1:∀ x ∈ p1,x.block < W.heap.size:=by obtain ⟨m,hm⟩:=k1; exact DataW.trod_lt m _ _ _ hm
 obtain ⟨z1,w1⟩:∃ zs,IsRow .i64 W a1 len1 cap1 zs:=by
  obtain ⟨fuel,hf⟩:=h1
  rcases open_ints Tryz.underlying22 Tryz.underlying3 (by kernel_rfl) hf with ⟨hcs,_⟩ | ⟨x,l,c,zs,hcs,_,hl,hm,hz,_,hcell,hwz⟩
  ·simp [Value.cells] at hcs
   obtain ⟨rfl,rfl,rfl⟩:=hcs
   exact ⟨[],.inl ⟨rfl,rfl,rfl,rfl⟩⟩
  ·simp [Value.cells] at hcs
   obtain ⟨rfl,rfl,rfl⟩:=hcs
   exact ⟨zs,.inr ⟨_,rfl,hl,hm,by simpa using hz,hcell,hwz⟩⟩
 have wf1:∀ x ∈ z1.take len1,(Lit.int .i64 x).wf = true:=by
  rcases w1 with ⟨_,_,_,rfl⟩ | ⟨_,_,_,_,_,_,hwf⟩
  ·simp
  ·exact fun x hx => hwf x (List.mem_of_mem_take hx)
 obtain ⟨a2,len2,cap2,rfl⟩:=okWide_slice Tryz.underlying22 (hval 2 22 v2 rfl rfl)
 have k2:=h2
 have lt2:∀ x ∈ p2,x.block < W.heap.size:=by obtain ⟨m,hm⟩:=k2; exact DataW.trod_lt m _ _ _ hm
 obtain ⟨z2,w2⟩:∃ zs,IsRow .i64 W a2 len2 cap2 zs:=by
  obtain ⟨fuel,hf⟩:=h2
  rcases open_ints Tryz.underlying22 Tryz.underlying3 (by kernel_rfl) hf with ⟨hcs,_⟩ | ⟨x,l,c,zs,hcs,_,hl,hm,hz,_,hcell,hwz⟩
  ·simp [Value.cells] at hcs
   obtain ⟨rfl,rfl,rfl⟩:=hcs
   exact ⟨[],.inl ⟨rfl,rfl,rfl,rfl⟩⟩
  ·simp [Value.cells] at hcs
   obtain ⟨rfl,rfl,rfl⟩:=hcs
   exact ⟨zs,.inr ⟨_,rfl,hl,hm,by simpa using hz,hcell,hwz⟩⟩
 have wf2:∀ x ∈ z2.take len2,(Lit.int .i64 x).wf = true:=by
  rcases w2 with ⟨_,_,_,rfl⟩ | ⟨_,_,_,_,_,_,hwf⟩
  ·simp
  ·exact fun x hx => hwf x (List.mem_of_mem_take hx)
 obtain ⟨a3,rfl,rfl,rfl,w3⟩:=open_int Tryz.underlying3 (hval 3 3 v3 rfl rfl) h3
 clear hA0 hval0 hsz0 hsz
 have hst:∀ y,(RowS a1 z1.length y ∨ RowS a2 z2.length y) → y.spot = none ∧ ∃ v,W.cell? y = some v:=by
  intro y hy
  rcases hy with hy | hy
  ·exact isRow_st w1 hy
  ·exact isRow_st w2 hy
 have hL1:laidMet Tryz.prog Rows.moveWantsRow.laid W:=by rw [← MakeChecks.laidMetH_plain _ _ _ (by kernel_rfl)]; exact hL
 have hG:=ground_of_laid hL1 (List.mem_cons_of_mem _ (List.mem_cons_of_mem _ List.mem_cons_self)) (by kernel_rfl) (g:=3) (t:=345) (n:=20) (e:=199) (by kernel_rfl) (by kernel_rfl) Tryz.underlying345 Tryz.underlying199 (by kernel_rfl) (by kernel_rfl)
 refine (law_calls (Go.Vx.Z.ok3) rfl (enters_of Tryz.func3 (by kernel_rfl) rfl) hG.1 hG.2 (S:=fun y => RowS a1 z1.length y ∨ RowS a2 z2.length y) hst (a0,(z1.take len1),(z2.take len2),a3,()) (Go.Vx.Z.pure_MoveWants a0 (z1.take len1) (z2.take len2) a3 w0 wf1 wf2 w3) rfl (fun i => ?_)).mono fun e W' ⟨he,bel⟩ => ?_
 ·match i with
  | 0 => exact rfl
  | 1 => exact isRow_rep w1 (fun y hy => .inl hy)
  | 2 => exact isRow_rep w2 (fun y hy => .inr (hy))
  | 3 => exact rfl
  | i + 4 => trivial
 subst he
 exact ⟨_,rfl,_,_,_,[],_,[],hW',trodAll_mk1 (shut_bool Tryz.underlying4 _),(trodAll_cons_mk (shut_int Tryz.underlying3 w0) (trodAll_cons_mk (Below.trod laidOut (by kernel_rfl) (of_decide_eq_true (by kernel_rfl)) k1 bel lt1) (trodAll_cons_mk (Below.trod laidOut (by kernel_rfl) (of_decide_eq_true (by kernel_rfl)) k2 bel lt2) (trodAll_cons_mk (shut_int Tryz.underlying3 w3) trodAll_mk0)))),rfl,bel.frame _,fun h => by cases h⟩
theorem and2 {a b:Bool} (h:a = true) (k:b = true):(a && b) = true:=by rw [h,k]; rfl
set_option maxHeartbeats 40000000
theorem joined:joinedFacts Tryz.prog 3 Tryz.f3 Rows.moveWantsSpec Rows.moveWantsRow = true:=by
 unfold joinedFacts
 repeat' with_reducible refine and2 ?_ ?_
 all_goals as_aux_lemma => kernel_rfl
theorem holds:Rows.MoveWantsSaid:=
 OpenClaim.holds_of_wide 3 Tryz.f3 rfl rfl rfl rfl rfl rfl rfl ⟨rfl,rfl,rfl,rfl,rfl⟩ rfl rfl rfl rfl rfl (by as_aux_lemma => kernel_rfl) Tryz.func3 joined
  (of_decide_eq_true (by as_aux_lemma => kernel_rfl)) (by unfold Func.isWrapper; first | (rw [if_pos (by decide +kernel)]; kernel_rfl) | (rw [if_neg (by decide +kernel)]; exact ⟨rfl,rfl⟩))
  (fun os started H enc _ => lifted os started H enc)
theorem card_holds:Rows.MoveWantsCardSaid:=
 Claim7.holds_tied_plain_at .later [] [.data, .data, .data, .data, .pinned] true (true, "e3fafb3cf7f5ac5126bf0d8721f292267cb5b60b099b1ec88e43ceadb87e0fb6") false holds (fun _ h => by cases h) (by as_aux_lemma => kernel_rfl) (fun _ h => by cases h) moveWants_row_tie rfl ⟨rfl, rfl⟩ (by as_aux_lemma => kernel_rfl) rfl
  (fun f fn hf hfn => by
   obtain rfl : f = 3 := Option.some.inj ((show Tryz.prog.funcNamed "transhumance/transhumancelaw11.MoveWants" = some 3 by as_aux_lemma => kernel_rfl).symm.trans hf) |>.symm
   obtain rfl:fn = Tryz.f3:=(Option.some.inj (Tryz.func3.symm.trans hfn)).symm
   exact ⟨by as_aux_lemma => kernel_rfl,fun j t ht => by
    rw [Tryz.params3] at ht
    have hm:t ∈ [3,22,22,3]:=by simpa using Array.mem_of_getElem? ht
    have hall:([3,22,22,3].all fun u => !Tryz.prog.wantsStandIn u) = true:=by as_aux_lemma => kernel_rfl
    exact (show Tryz.prog.wantsStandIn t = false by simpa using List.all_eq_true.1 hall t hm)⟩)
  (by as_aux_lemma => kernel_rfl)
end moveWants
end Go.Proofs.YtjkfdmdnpkblfaaGreatDoor
