/- Locks in another order want the same, where there are no troubles. -/
import Derived.Test.YtjkfdmdnpkblfaaGreatDoorV6
import Derived.Test.YtjkfdmdnpkblfaaGreatDoorV2
import Derived.Test.YtjkfdmdnpkblfaaGreatDoorRows
import Derived.Test.YtjkfdmdnpkblfaaGreatDoorTie
import Derived.Test.YtjkfdmdnpkblfaaGreatDoorCards
import Derived.Test.YtjkfdmdnpkblfaaGreatDoorV5
import Derived.WalkKit
import Derived.ProofKit
import Derived.OpenShut
import Derived.ShutString
import Derived.ChangeOld
import Derived.Below
import Derived.SizedLaws
import Derived.LaidMore
import Derived.Lay
import Derived.SevenTiedAt
import Derived.Stop.Joined
import Derived.KernelRfl
set_option linter.unusedSimpArgs false
/-! Locks in another order want the same, where there are no troubles. -/
namespace Go.Vx.Z
open Go Go.Vx
set_option linter.unusedVariables false
set_option maxRecDepth 100000
section
variable {w:List Mod} {rv:List Rev} {md:ByteArray}
theorem judge_nil_of {x:Lock} {s:Fnd} {o:List Want} (h:judge md x s o = none):judge md x s [] = none:=by
 unfold judge at h ⊢
 by_cases he:s.e ≠ 0
 ·rw [if_pos he] at h; cases h
 ·rw [if_neg he] at h ⊢
  by_cases ho:outB x.2.2.2.1 s.2.2.2 = true
  ·rw [if_pos ho] at h; cases h
  ·rw [if_neg ho] at h ⊢
   by_cases hm:bs s.2.1 = bs md
   ·rw [if_pos hm] at h; cases h
   ·rw [if_neg hm]; rfl
theorem judge_of_nil {x:Lock} {s:Fnd} (h:judge md x s [] = none) (o:List Want):judge md x s o = (o.find? (sameP s.2.1)).bind fun b => if eqW b (wantOf x s) = true then none else some (trb 11 x.1 s.2.1 s.2.2.2 b.v):=by
 unfold judge at h ⊢
 by_cases he:s.e ≠ 0
 ·rw [if_pos he] at h; cases h
 ·rw [if_neg he] at h ⊢
  by_cases ho:outB x.2.2.2.1 s.2.2.2 = true
  ·rw [if_pos ho] at h; cases h
  ·rw [if_neg ho] at h ⊢
   by_cases hm:bs s.2.1 = bs md
   ·rw [if_pos hm] at h; cases h
   ·rw [if_neg hm]
noncomputable def wnt (w:List Mod) (rv:List Rev) (x:Lock):Want:=wantOf x (whereOf w rv x)
theorem wnt_path (x:Lock):(wnt w rv x).1 = (whereOf w rv x).2.1:=rfl
structure Fine (w:List Mod) (rv:List Rev) (md:ByteArray) (l:List Lock):Prop where
 each:∀ x ∈ l,judge md x (whereOf w rv x) [] = none
 pair:∀ x ∈ l,∀ y ∈ l,bs (wnt w rv x).1 = bs (wnt w rv y).1 → wnt w rv x = wnt w rv y
theorem Fine.sub {l k:List Lock} (h:Fine w rv md l) (hs:∀ x ∈ k,x ∈ l):Fine w rv md k:=⟨fun x hx => h.each x (hs x hx),fun x hx y hy => h.pair x (hs x hx) y (hs y hy)⟩
def RunF (w:List Mod) (rv:List Rev) (md:ByteArray) (l:List Lock):Prop:=((runP w rv md l).2 = [] ↔ Fine w rv md l) ∧ (Fine w rv md l → ∀ z,z ∈ (runP w rv md l).1 ↔ ∃ x ∈ l,z = wnt w rv x)
theorem runF_step {l:List Lock} (h:RunF w rv md l) (x:Lock):RunF w rv md (l ++ [x]):=by
 obtain ⟨h1,h2⟩:=h
 have hrun:runP w rv md (l ++ [x]) = stepP w rv md (runP w rv md l) x:=by unfold runP; rw [List.foldl_append]; rfl
 have hsub:∀ y ∈ l,y ∈ l ++ [x]:=fun y hy => List.mem_append_left _ hy
 have hxin:x ∈ l ++ [x]:=List.mem_append_right _ (List.mem_singleton.2 rfl)
 have hfind:∀ b,(runP w rv md l).1.find? (sameP (whereOf w rv x).2.1) = some b → b ∈ (runP w rv md l).1 ∧ bs b.1 = bs (wnt w rv x).1:=fun b hb => ⟨List.mem_of_find?_eq_some hb,by
  have:=List.find?_some hb
  unfold sameP at this
  exact beq_iff_eq.1 this⟩
 unfold RunF
 rw [hrun]
 unfold stepP
 cases hj:judge md x (whereOf w rv x) (runP w rv md l).1 with
 | some t =>
  have hno:¬ Fine w rv md (l ++ [x]):=by
   intro hF
   have hFl:=hF.sub hsub
   rw [judge_of_nil (hF.each x hxin)] at hj
   cases hf:(runP w rv md l).1.find? (sameP (whereOf w rv x).2.1) with
   | none => rw [hf] at hj; cases hj
   | some b =>
    obtain ⟨hb1,hb2⟩:=hfind b hf
    obtain ⟨y,hy,rfl⟩:=(h2 hFl b).1 hb1
    have:wnt w rv y = wnt w rv x:=hF.pair y (hsub y hy) x hxin hb2
    have hq:eqW (wnt w rv y) (wantOf x (whereOf w rv x)) = true:=eqW_iff.2 this
    rw [hf,Option.bind_some,if_pos hq] at hj
    cases hj
  exact ⟨⟨fun e => absurd e (by simp),fun e => absurd e hno⟩,fun e => absurd e hno⟩
 | none =>
  have hx:=judge_nil_of hj
  rw [judge_of_nil hx] at hj
  have hsame:∀ b,(runP w rv md l).1.find? (sameP (whereOf w rv x).2.1) = some b → b = wnt w rv x:=fun b hb => by
   rw [hb,Option.bind_some] at hj
   by_cases hq:eqW b (wantOf x (whereOf w rv x)) = true
   ·exact eqW_iff.1 hq
   ·rw [if_neg hq] at hj; cases hj
  refine ⟨⟨fun e => ?_,fun hF => h1.2 (hF.sub hsub)⟩,fun hF z => ?_⟩
  ·have hF:=h1.1 e
   have key:∀ y ∈ l,bs (wnt w rv y).1 = bs (wnt w rv x).1 → wnt w rv y = wnt w rv x:=fun y hy e => by
    have hym:wnt w rv y ∈ (runP w rv md l).1:=(h2 hF _).2 ⟨y,hy,rfl⟩
    cases hf:(runP w rv md l).1.find? (sameP (whereOf w rv x).2.1) with
    | none =>
     have:=List.find?_eq_none.1 hf _ hym
     exact absurd (by unfold sameP; exact beq_iff_eq.2 e) this
    | some b =>
     obtain ⟨hb1,hb2⟩:=hfind b hf
     obtain ⟨z,hz,rfl⟩:=(h2 hF b).1 hb1
     rw [hF.pair y hy z hz (e.trans hb2.symm),hsame _ hf]
   refine ⟨fun y hy => ?_,fun y hy z hz e => ?_⟩
   ·rcases List.mem_append.1 hy with hy | hy
    ·exact hF.each y hy
    ·rw [List.mem_singleton.1 hy]; exact hx
   ·rcases List.mem_append.1 hy with hy | hy <;> rcases List.mem_append.1 hz with hz | hz
    ·exact hF.pair y hy z hz e
    ·rw [List.mem_singleton.1 hz] at e ⊢; exact key y hy e
    ·rw [List.mem_singleton.1 hy] at e ⊢; exact (key z hz e.symm).symm
    ·rw [List.mem_singleton.1 hy,List.mem_singleton.1 hz]
  ·have hm:=h2 (hF.sub hsub)
   simp only
   cases hf:(runP w rv md l).1.find? (sameP (whereOf w rv x).2.1) with
   | some b =>
    rw [Option.isSome_some,if_pos rfl,hm]
    have hb:wnt w rv x ∈ (runP w rv md l).1:=by rw [← hsame b hf]; exact (hfind b hf).1
    constructor
    ·rintro ⟨y,hy,e⟩; exact ⟨y,hsub y hy,e⟩
    ·rintro ⟨y,hy,rfl⟩
     rcases List.mem_append.1 hy with hy | hy
     ·exact ⟨y,hy,rfl⟩
     ·rw [List.mem_singleton.1 hy]; exact (hm _).1 hb
   | none =>
    rw [Option.isSome_none,if_neg (by simp),List.mem_append,hm,List.mem_singleton]
    constructor
    ·rintro (⟨y,hy,e⟩ | e)
     ·exact ⟨y,hsub y hy,e⟩
     ·exact ⟨x,hxin,e⟩
    ·rintro ⟨y,hy,rfl⟩
     rcases List.mem_append.1 hy with hy | hy
     ·exact .inl ⟨y,hy,rfl⟩
     ·rw [List.mem_singleton.1 hy]; exact .inr rfl
theorem runF_all:∀ (r l:List Lock),RunF w rv md l → RunF w rv md (l ++ r)
 | [],l,h => by rw [List.append_nil]; exact h
 | x :: r,l,h => by
  have:=runF_all r _ (runF_step h x)
  rwa [List.append_assoc] at this
theorem run_fine (l:List Lock):RunF w rv md l:=by
 have:=runF_all (w:=w) (rv:=rv) (md:=md) l [] ⟨⟨fun _ => ⟨fun x hx => (by cases hx),fun x hx => (by cases hx)⟩,fun _ => rfl⟩,fun _ z => ⟨fun h => (by cases h),fun h => (by obtain ⟨x,hx,_⟩:=h; cases hx)⟩⟩
 rwa [List.nil_append] at this
end
theorem cW_self (x:Want):cW x x = 0:=(lin_cmpT.eq0 _ _).2 rfl
theorem cW_anti {x y:Want} (h:cW x y = -1):cW y x ≠ -1:=by
 have:=lin_cmpT.anti (bs x.1) (bs y.1)
 unfold cW at *
 omega
theorem asc_ext:∀ {a b:List Want},(a.Pairwise fun x y => cW x y = -1) → (b.Pairwise fun x y => cW x y = -1) → (∀ z,z ∈ a ↔ z ∈ b) → a = b
 | [],[],_,_,_ => rfl
 | [],y :: b,_,_,h => by have:=(h y).2 List.mem_cons_self; cases this
 | x :: a,[],_,_,h => by have:=(h x).1 List.mem_cons_self; cases this
 | x :: a,y :: b,h1,h2,h => by
  rw [List.pairwise_cons] at h1 h2
  have hxy:x = y:=by
   rcases List.mem_cons.1 ((h x).1 List.mem_cons_self) with e | e
   ·exact e
   ·rcases List.mem_cons.1 ((h y).2 List.mem_cons_self) with e' | e'
    ·exact e'.symm
    ·exact absurd (h2.1 x e) (cW_anti (h1.1 y e'))
  subst hxy
  rw [asc_ext h1.2 h2.2 fun z => ?_]
  constructor
  ·intro hz
   rcases List.mem_cons.1 ((h z).1 (List.mem_cons_of_mem _ hz)) with e | e
   ·have:=h1.1 z hz
    rw [e,cW_self] at this
    cases this
   ·exact e
  ·intro hz
   rcases List.mem_cons.1 ((h z).2 (List.mem_cons_of_mem _ hz)) with e | e
   ·have:=h2.1 z hz
    rw [e,cW_self] at this
    cases this
   ·exact e
theorem order_same {w:List Mod} {rv:List Rev} {md:ByteArray} {l k:List Lock} (hp:k.Perm l) {R Q:List Want × List Trb} (hR:RelW (runP w rv md l) R) (hQ:RelW (runP w rv md k) Q) :
  (R.2 = [] ↔ Q.2 = []) ∧ (R.2 = [] → R.1 = Q.1):=by
 have f1:=run_fine (w:=w) (rv:=rv) (md:=md) l
 have f2:=run_fine (w:=w) (rv:=rv) (md:=md) k
 have hF:Fine w rv md l ↔ Fine w rv md k:=⟨fun h => h.sub fun x hx => hp.mem_iff.1 hx,fun h => h.sub fun x hx => hp.mem_iff.2 hx⟩
 rw [hR.trb,hQ.trb,f1.1,f2.1]
 refine ⟨hF,fun h => asc_ext hR.asc hQ.asc fun z => ?_⟩
 rw [← hR.perm.mem_iff,← hQ.perm.mem_iff,f1.2 h,f2.2 (hF.1 h)]
 constructor
 ·rintro ⟨x,hx,e⟩; exact ⟨x,hp.mem_iff.2 hx,e⟩
 ·rintro ⟨x,hx,e⟩; exact ⟨x,hp.mem_iff.1 hx,e⟩
theorem B5_0_is {w:List Mod} {rv:List Rev} {l k:List Lock} (ord:List Int) (hp:k.Perm l) (hk0:0 < k.length) (hk:k.length ≤ 900) {i:Nat} (hi:i < ord.length) (hi10:i < 10) :
  ∃ k',B5_0 (ord,l,(i:Int),w,rv,k,()) = some (.inl (ord,l,((i + 1:Nat):Int),w,rv,k',())) ∧ k'.Perm l:=by
 rw [B5_0_eq,lt_in hi,show decide ((i:Int) < Int.ofNat 10) = true by simp; omega,show decide (Int.ofNat k.length > Int.ofNat 0) = true from decide_eq_true (Int.ofNat_lt.2 hk0)]
 have d0:decide (Int.ofNat k.length = Int.ofNat 0) = false:=decide_eq_false fun e => by have:=Int.ofNat.inj e; omega
 obtain ⟨b,hb,e1⟩:=F18_is ord[i] k.length hk0 (by omega)
 have e1':F18 (ord[i],Int.ofNat k.length,()) = some ((b:Int),()):=e1
 have ha:i % k.length < k.length:=Nat.mod_lt _ hk0
 rw [d0,ge_zero,at_in hi]
 simp only [cond_true,Bool.not_false,Option.bind_some]
 rw [e1',Option.bind_some]
 simp only [modN]
 rw [ge_zero,ge_zero,lt_in hb,lt_in ha,at_in hb,at_in ha,wrap_next hi10 (by omega)]
 simp only [cond_true,Bool.and_self,Option.bind_some,Int.toNat_natCast]
 have hb':b < (List.set k (i % k.length) k[b]).length:=by rw [List.length_set]; exact hb
 have c1:decide ((b:Int) < Int.ofNat (List.length (List.set k (i % k.length) (k[b].1,k[b].2.1,k[b].2.2.1,k[b].2.2.2.1,k[b].2.2.2.2.1,())))) = true:=lt_in (n:=(List.set k (i % k.length) k[b]).length) hb'
 have c2:(List.set k (i % k.length) (k[b].1,k[b].2.1,k[b].2.2.1,k[b].2.2.2.1,k[b].2.2.2.2.1,()))[b]? = some (List.set k (i % k.length) k[b])[b]:=List.getElem?_eq_getElem hb'
 rw [c1,c2]
 exact ⟨(k.set (i % k.length) k[b]).set b k[i % k.length],rfl,(List.set_set_perm ha hb).trans hp⟩
theorem swaps_is {w:List Mod} {rv:List Rev} (l:List Lock) (ord:List Int) (hl:l.length ≤ 900):∃ k,loop B5_0 (ord,l,Int.ofNat 0,w,rv,l,()) = some (l,w,rv,k,()) ∧ k.Perm l:=by
 by_cases hl0:l.length = 0
 ·refine ⟨l,loop_end ?_,.refl _⟩
  rw [B5_0_eq,hl0]
  cases decide (Int.ofNat 0 < Int.ofNat ord.length) <;> rfl
 ·obtain ⟨k,h1,h2⟩:=loop_upto (B:=B5_0) (min ord.length 10) (fun i (k:List Lock) => (ord,l,(i:Int),w,rv,k,())) (fun k => (l,w,rv,k,())) (fun i k => k.Perm l) (by
   intro i hi k hk
   have:=hk.length_eq
   exact B5_0_is ord hk (by omega) (by omega) (by omega) (by omega)) (by
   intro k hk
   rw [B5_0_eq]
   by_cases h10:ord.length ≤ 10
   ·rw [Nat.min_eq_left h10,lt_out]; rfl
   ·rw [Nat.min_eq_right (by omega),lt_in (show 10 < ord.length by omega)]
    rfl) 0 l (by omega) (.refl _)
  exact ⟨k,h1,h2⟩
theorem nil_dec {α:Type} (t:List α):(Int.ofNat (List.length t) == Int.ofNat 0) = decide (t = []):=by
 cases t with
 | nil => rfl
 | cons a t => simp; omega
theorem order_end {R Q:List Want × List Trb} (hRl:R.1.length ≤ 1000) (h:(R.2 = [] ↔ Q.2 = []) ∧ (R.2 = [] → R.1 = Q.1)) :
  (bif (Int.ofNat (List.length R.2) == Int.ofNat 0) == (Int.ofNat (List.length Q.2) == Int.ofNat 0) then bif decide (Int.ofNat (List.length R.2) > Int.ofNat 0) then some (true,()) else Option.bind (F16 (R.1,())) fun r_3 => Option.bind (F16 (Q.1,())) fun r => Option.bind (F15 (r_3.1,r.1,())) fun r => some (r.1,()) else some (false,())) = some (true,()):=by
 rw [nil_dec,nil_dec]
 by_cases hR:R.2 = []
 ·rw [decide_eq_true hR,decide_eq_true (h.1.1 hR),← h.2 hR,F16_is R.1 hRl,hR]
  simp only [Option.bind_some]
  rw [F15_is R.1 hRl]
  rfl
 ·rw [decide_eq_false hR,decide_eq_false (fun e => hR (h.1.2 e))]
  have:decide (Int.ofNat (List.length R.2) > Int.ofNat 0) = true:=decide_eq_true (Int.ofNat_lt.2 (List.length_pos_iff.2 hR))
  rw [this]
  rfl
theorem F5_is (x0:Int) (x1 x2 x3:List Int):F5 (x0,x1,x2,x3,()) = some (true,()):=by
 rw [F5_eq]
 obtain ⟨n,w,rv,h1,h2,h3⟩:=F10_full x0 x1
 obtain ⟨l,h4,h5⟩:=F11_is h2 h3 x2
 have hl:=h5.len
 have hw:=made_wd h2 h3
 rw [h1,Option.bind_some]
 simp only
 rw [h4,Option.bind_some]
 simp only
 rw [decide_eq_true (show 0 + l.length ≤ 1759218604441 by omega),cond_true,List.nil_append]
 obtain ⟨k,g1,g2⟩:=swaps_is (w:=w) (rv:=rv) l x3 (by omega)
 rw [g1,Option.bind_some]
 simp only
 have hkl:=g2.length_eq
 have hkg:∀ x ∈ k,GoodK x:=fun x hx => h5.good x (g2.mem_iff.1 hx)
 obtain ⟨R,a1,a2,a3⟩:=wants_same (md:=lit [109,97,105,110]) hw h5.good (by omega)
 obtain ⟨Q,b1,b2,b3⟩:=wants_same (md:=lit [109,97,105,110]) hw hkg (by omega)
 obtain ⟨r1,r2⟩:=relW_len a3 (by omega)
 have b1':F12v1 (w,rv,lit [109,97,105,110],k,()) = some (Q.1,Q.2,k,()):=by
  rw [F12v1_is hw hkg (by omega),sort_is b3,b3.trb]
 rw [a1,Option.bind_some,b1',Option.bind_some]
 exact order_end (R:=R) (Q:=Q) (by omega) (order_same g2 a3 b3)
theorem pure_MoveOrder (x0:Int) (x1 x2 x3:List Int) (h0:(Lit.int .i64 x0).wf = true) (h1:∀ x ∈ x1,(Lit.int .i64 x).wf = true) (h2:∀ x ∈ x2,(Lit.int .i64 x).wf = true) (h3:∀ x ∈ x3,(Lit.int .i64 x).wf = true):F5 (x0,x1,x2,x3,()) = some (true,()):=F5_is x0 x1 x2 x3
end Go.Vx.Z
namespace Go.Proofs.YtjkfdmdnpkblfaaGreatDoor
open Go Go.Vx Go.ChangeShapes Go.WideShapes Go.ChangeAt Go.RowKit
open Go.ChangeMaps (open_string shut_string)
set_option linter.unusedVariables false
namespace moveOrder
theorem own:ownKnob Tryz.prog.godebug = none:=by kernel_rfl
theorem laidOut:laidOutB Tryz.prog = true:=by kernel_rfl
set_option maxRecDepth 100000 in
theorem lifted (os:Os) (started:os.Started) (H:Type) (enc:TypeId × Value → H) :
  ReturnsInHanded {} Tryz.checked os 5 .any (fun w args => (Rows.moveOrderSpec.pre enc Tryz.prog Tryz.f5 Rows.moveOrderRow.domain false w args ∧ laidMetH Tryz.prog Rows.moveOrderRow.laid w) ∧ sizedMet enc Tryz.prog Tryz.f5 (OpenSpec.ofChange Rows.moveOrderSpec) false w args)
   (Rows.moveOrderSpec.post enc Tryz.prog Tryz.f5 false true false false):=by
 refine returnsInHanded_of_change_and (C:=Tryz.checked) (X:=fun w _ => laidMetH Tryz.prog Rows.moveOrderRow.laid w) (fun _ _ _ hh h => h.of_heap hh) own started (by kernel_rfl) Tryz.func5
  (ChangeSpec.witness_shaped (enc:=enc) (C:=Tryz.checked) (os:=os) (X:=fun w _ => laidMetH Tryz.prog Rows.moveOrderRow.laid w) false (World.laidAll Tryz.prog os Rows.moveOrderRow.laid) #[.int .i64 0,.slice none 0 0,.slice none 0 0,.slice none 0 0] 8 (World.laidAll_os _ _ _)
   (World.shaped_of_ZipB (by kernel_rfl) (by kernel_rfl)) (by kernel_rfl) (by kernel_rfl) (by kernel_rfl)
   (by rw [MakeChecks.laidMetH_plain _ _ _ (by kernel_rfl)]; exact laidMet_laidAll _ (by kernel_rfl) (by kernel_rfl))) ?_
 intro W base args ds gs before hval0 hW hc hsz0 hL _
 have hsz:(DataW.weightsEach Tryz.prog (Tryz.f5.params.toList ++ Rows.moveOrderSpec.plain.varTypes Tryz.prog) (ds ++ gs)).all (· ≤ reachBytes) = true:=hsz0
 have hval:∀ (j:Nat) t v,Tryz.f5.params[j]? = some t → args[j]? = some v → Value.okWide Tryz.prog W .any base t v:=hval0
 have hW':=hW
 obtain ⟨p,q,hA0,hV,rfl,hfz,hnd⟩:=hW
 have hA:DataW.TrodAll enc Tryz.prog W 0 (fun _ => true) true Tryz.f5.params.toList args.toList ds p:=hA0
 rw [Tryz.params5] at hA hval hsz
 obtain ⟨v0,vs0,d0,ds0,p0,q0,hargs,rfl,rfl,h0,r0⟩:=trodAll_cons hA
 obtain ⟨v1,vs1,d1,ds1,p1,q1,rfl,rfl,rfl,h1,r1⟩:=trodAll_cons r0
 obtain ⟨v2,vs2,d2,ds2,p2,q2,rfl,rfl,rfl,h2,r2⟩:=trodAll_cons r1
 obtain ⟨v3,vs3,d3,ds3,p3,q3,rfl,rfl,rfl,h3,r3⟩:=trodAll_cons r2
 obtain ⟨rfl,rfl,rfl⟩:=trodAll_nil r3
 obtain rfl:args = #[v0,v1,v2,v3]:=by cases args; simp_all
 obtain ⟨rfl,rfl⟩:=trodVars_none hV
 obtain ⟨a0,rfl,rfl,rfl,w0⟩:=open_int Tryz.underlying3 (hval 0 3 v0 rfl rfl) h0
 obtain ⟨a1,len1,cap1,rfl⟩:=okWide_slice Tryz.underlying22 (hval 1 22 v1 rfl rfl)
 have k1:=h1
 have lt1:∀ x ∈ p1,x.block < W.heap.size:=by obtain ⟨m,hm⟩:=k1; exact DataW.trod_lt m _ _ _ hm
 obtain ⟨z1,w1⟩:∃ zs,IsRow .i64 W a1 len1 cap1 zs:=by
  obtain ⟨fuel,hf⟩:=h1
  rcases open_ints Tryz.underlying22 Tryz.underlying3 (by kernel_rfl) hf with ⟨hcs,_⟩ | ⟨x,l,c,zs,hcs,_,hl,hm,hz,_,hcell,hwz⟩
  ·simp [Value.cells] at hcs
   obtain ⟨rfl,rfl,rfl⟩:=hcs
   exact ⟨[],.inl ⟨rfl,rfl,rfl,rfl⟩⟩
  ·simp [Value.cells] at hcs
   obtain ⟨rfl,rfl,rfl⟩:=hcs
   exact ⟨zs,.inr ⟨_,rfl,hl,hm,by simpa using hz,hcell,hwz⟩⟩
 have wf1:∀ x ∈ z1.take len1,(Lit.int .i64 x).wf = true:=by
  rcases w1 with ⟨_,_,_,rfl⟩ | ⟨_,_,_,_,_,_,hwf⟩
  ·simp
  ·exact fun x hx => hwf x (List.mem_of_mem_take hx)
 obtain ⟨a2,len2,cap2,rfl⟩:=okWide_slice Tryz.underlying22 (hval 2 22 v2 rfl rfl)
 have k2:=h2
 have lt2:∀ x ∈ p2,x.block < W.heap.size:=by obtain ⟨m,hm⟩:=k2; exact DataW.trod_lt m _ _ _ hm
 obtain ⟨z2,w2⟩:∃ zs,IsRow .i64 W a2 len2 cap2 zs:=by
  obtain ⟨fuel,hf⟩:=h2
  rcases open_ints Tryz.underlying22 Tryz.underlying3 (by kernel_rfl) hf with ⟨hcs,_⟩ | ⟨x,l,c,zs,hcs,_,hl,hm,hz,_,hcell,hwz⟩
  ·simp [Value.cells] at hcs
   obtain ⟨rfl,rfl,rfl⟩:=hcs
   exact ⟨[],.inl ⟨rfl,rfl,rfl,rfl⟩⟩
  ·simp [Value.cells] at hcs
   obtain ⟨rfl,rfl,rfl⟩:=hcs
   exact ⟨zs,.inr ⟨_,rfl,hl,hm,by simpa using hz,hcell,hwz⟩⟩
 have wf2:∀ x ∈ z2.take len2,(Lit.int .i64 x).wf = true:=by
  rcases w2 with ⟨_,_,_,rfl⟩ | ⟨_,_,_,_,_,_,hwf⟩
  ·simp
  ·exact fun x hx => hwf x (List.mem_of_mem_take hx)
 obtain ⟨a3,len3,cap3,rfl⟩:=okWide_slice Tryz.underlying22 (hval 3 22 v3 rfl rfl)
 have k3:=h3
 have lt3:∀ x ∈ p3,x.block < W.heap.size:=by obtain ⟨m,hm⟩:=k3; exact DataW.trod_lt m _ _ _ hm
 obtain ⟨z3,w3⟩:∃ zs,IsRow .i64 W a3 len3 cap3 zs:=by
  obtain ⟨fuel,hf⟩:=h3
  rcases open_ints Tryz.underlying22 Tryz.underlying3 (by kernel_rfl) hf with ⟨hcs,_⟩ | ⟨x,l,c,zs,hcs,_,hl,hm,hz,_,hcell,hwz⟩
  ·simp [Value.cells] at hcs
   obtain ⟨rfl,rfl,rfl⟩:=hcs
   exact ⟨[],.inl ⟨rfl,rfl,rfl,rfl⟩⟩
  ·simp [Value.cells] at hcs
   obtain ⟨rfl,rfl,rfl⟩:=hcs
   exact ⟨zs,.inr ⟨_,rfl,hl,hm,by simpa using hz,hcell,hwz⟩⟩
 have wf3:∀ x ∈ z3.take len3,(Lit.int .i64 x).wf = true:=by
  rcases w3 with ⟨_,_,_,rfl⟩ | ⟨_,_,_,_,_,_,hwf⟩
  ·simp
  ·exact fun x hx => hwf x (List.mem_of_mem_take hx)
 clear hA0 hval0 hsz0 hsz
 have hst:∀ y,(RowS a1 z1.length y ∨ RowS a2 z2.length y ∨ RowS a3 z3.length y) → y.spot = none ∧ ∃ v,W.cell? y = some v:=by
  intro y hy
  rcases hy with hy | hy | hy
  ·exact isRow_st w1 hy
  ·exact isRow_st w2 hy
  ·exact isRow_st w3 hy
 have hL1:laidMet Tryz.prog Rows.moveOrderRow.laid W:=by rw [← MakeChecks.laidMetH_plain _ _ _ (by kernel_rfl)]; exact hL
 have hG:=ground_of_laid hL1 (List.mem_cons_of_mem _ (List.mem_cons_of_mem _ List.mem_cons_self)) (by kernel_rfl) (g:=3) (t:=345) (n:=20) (e:=199) (by kernel_rfl) (by kernel_rfl) Tryz.underlying345 Tryz.underlying199 (by kernel_rfl) (by kernel_rfl)
 refine (law_calls (Go.Vx.Z.ok5) rfl (enters_of Tryz.func5 (by kernel_rfl) rfl) hG.1 hG.2 (S:=fun y => RowS a1 z1.length y ∨ RowS a2 z2.length y ∨ RowS a3 z3.length y) hst (a0,(z1.take len1),(z2.take len2),(z3.take len3),()) (Go.Vx.Z.pure_MoveOrder a0 (z1.take len1) (z2.take len2) (z3.take len3) w0 wf1 wf2 wf3) rfl (fun i => ?_)).mono fun e W' ⟨he,bel⟩ => ?_
 ·match i with
  | 0 => exact rfl
  | 1 => exact isRow_rep w1 (fun y hy => .inl hy)
  | 2 => exact isRow_rep w2 (fun y hy => .inr (.inl hy))
  | 3 => exact isRow_rep w3 (fun y hy => .inr (.inr (hy)))
  | i + 4 => trivial
 subst he
 exact ⟨_,rfl,_,_,_,[],_,[],hW',trodAll_mk1 (shut_bool Tryz.underlying4 _),(trodAll_cons_mk (shut_int Tryz.underlying3 w0) (trodAll_cons_mk (Below.trod laidOut (by kernel_rfl) (of_decide_eq_true (by kernel_rfl)) k1 bel lt1) (trodAll_cons_mk (Below.trod laidOut (by kernel_rfl) (of_decide_eq_true (by kernel_rfl)) k2 bel lt2) (trodAll_cons_mk (Below.trod laidOut (by kernel_rfl) (of_decide_eq_true (by kernel_rfl)) k3 bel lt3) trodAll_mk0)))),rfl,bel.frame _,fun h => by cases h⟩
theorem and2 {a b:Bool} (h:a = true) (k:b = true):(a && b) = true:=by rw [h,k]; rfl
set_option maxHeartbeats 40000000
theorem joined:joinedFacts Tryz.prog 5 Tryz.f5 Rows.moveOrderSpec Rows.moveOrderRow = true:=by
 unfold joinedFacts
 repeat' with_reducible refine and2 ?_ ?_
 all_goals as_aux_lemma => kernel_rfl
theorem holds:Rows.MoveOrderSaid:=
 OpenClaim.holds_of_wide 5 Tryz.f5 rfl rfl rfl rfl rfl rfl rfl ⟨rfl,rfl,rfl,rfl,rfl⟩ rfl rfl rfl rfl rfl (by as_aux_lemma => kernel_rfl) Tryz.func5 joined
  (of_decide_eq_true (by as_aux_lemma => kernel_rfl)) (by unfold Func.isWrapper; first | (rw [if_pos (by decide +kernel)]; kernel_rfl) | (rw [if_neg (by decide +kernel)]; exact ⟨rfl,rfl⟩))
  (fun os started H enc _ => lifted os started H enc)
theorem card_holds:Rows.MoveOrderCardSaid:=
 Claim7.holds_tied_plain_at .later [] [.data, .data, .data, .data, .pinned] true (true, "e3fafb3cf7f5ac5126bf0d8721f292267cb5b60b099b1ec88e43ceadb87e0fb6") false holds (fun _ h => by cases h) (by as_aux_lemma => kernel_rfl) (fun _ h => by cases h) moveOrder_row_tie rfl ⟨rfl, rfl⟩ (by as_aux_lemma => kernel_rfl) rfl
  (fun f fn hf hfn => by
   obtain rfl : f = 5 := Option.some.inj ((show Tryz.prog.funcNamed "transhumance/transhumancelaw11.MoveOrder" = some 5 by as_aux_lemma => kernel_rfl).symm.trans hf) |>.symm
   obtain rfl:fn = Tryz.f5:=(Option.some.inj (Tryz.func5.symm.trans hfn)).symm
   exact ⟨by as_aux_lemma => kernel_rfl,fun j t ht => by
    rw [Tryz.params5] at ht
    have hm:t ∈ [3,22,22,22]:=by simpa using Array.mem_of_getElem? ht
    have hall:([3,22,22,22].all fun u => !Tryz.prog.wantsStandIn u) = true:=by as_aux_lemma => kernel_rfl
    exact (show Tryz.prog.wantsStandIn t = false by simpa using List.all_eq_true.1 hall t hm)⟩)
  (by as_aux_lemma => kernel_rfl)
end moveOrder
end Go.Proofs.YtjkfdmdnpkblfaaGreatDoor
