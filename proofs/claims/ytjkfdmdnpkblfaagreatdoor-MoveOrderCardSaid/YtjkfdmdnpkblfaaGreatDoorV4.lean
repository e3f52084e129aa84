import Derived.Test.YtjkfdmdnpkblfaaGreatDoorV3
import Derived.Test.YtjkfdmdnpkblfaaGreatDoorV2
import Derived.IntWalk
import Derived.Lib.Bytealg
import Derived.Sort.Statements
import Init.Data.List.Sort
import Derived.Shelf.SlSortCmp.NoneTotal
set_option linter.unusedSimpArgs false
namespace Go.Vx.Z
open Go Go.Vx Go.Proofs Go.RowKit
set_option linter.unusedVariables false
set_option linter.unusedSimpArgs false
set_option maxRecDepth 1000000
set_option maxHeartbeats 4000000
noncomputable def b234:Code:=Tryz.f234.body.getD .skip
noncomputable def b186:Code:=Tryz.f186.body.getD .skip
noncomputable def cx234:Cx:=⟨Tryz.prog,[],[11],13,[],[]⟩
noncomputable def cx186:Cx:=⟨Tryz.prog,[],[],16,[],[]⟩
noncomputable def as234:Code:=(rangeOf (sub [1,0] b234)).1
noncomputable def bo234:Code:=(rangeOf (sub [1,0] b234)).2
theorem b234_eq:b234 = .seq (.region 0 (opsOf (sub [0] b234)) false) (.seq (.seq (.region 1 (opsOf (sub [1,0,0] b234)) false) (.block 0 (.rangeFunc (.tmp 6) #[7] (.region 2 (opsOf as234) false) (.block 1 (.region 3 (opsOf (sub [0] bo234)) false)))))
 (.seq (.region 4 (opsOf (sub [1,1,0] b234)) false) .ret)):=by kernel_rfl
theorem b186_eq:b186 = .seq (.region 0 (opsOf (sub [0] b186)) false) (.block 0 (.loop (.seq (.region 1 (opsOf (sub [1,0,0,0] b186)) false) (.seq (.cond (.tmp 8) .skip (.exit 0)) (.seq
 (.block 1 (.seq (.region 2 (opsOf (sub [1,0,0,1,1,0,0,0] b186)) false) (.seq (.region 3 (opsOf (sub [1,0,0,1,1,0,0,1,0] b186)) false) (.cond (.tmp 14) .ret .skip)))) (.region 4 (opsOf (sub [1,0,0,1,1,1] b186)) false)))))):=by kernel_rfl
@[reducible] def shA:Shape:=⟨[(2,.one (.ptr 100001 0)),(7,.row (rowShape r0))],[(100001,.box 57 [.own 200001]),(200001,.lst 68 r0 false),(100000,.box 57 [.d (.list r0)])]⟩
@[reducible] def shB:Shape:=⟨[(2,.one (.ptr 100001 0)),(5,.one (.ptr 200005 0))],[(100001,.box 57 [.own 200001]),(200001,.lst 68 r0 false),(100000,.box 57 [.d (.list r0)]),(200005,.box 68 (rowShape r0))]⟩
@[reducible] def shC:Shape:=⟨[],[(100001,.box 57 [.own 200001]),(200001,.lst 68 r0 false),(100000,.box 57 [.d (.list r0)])]⟩
@[reducible] def shD:Shape:=⟨[(2,.one (.ptr 100001 0))],[(100001,.box 57 [.own 200001]),(200001,.lst 68 r0 false),(100000,.box 57 [.d (.list r0)])]⟩
@[reducible] def shE:Shape:=⟨[(4,.one (.own 200000))],[(100000,.box 57 [.d (.list r0)]),(200000,.lst 68 r0 false)]⟩
@[reducible] def sh234:Shape:=⟨[(0,.one .nilS),(1,.one (.clo 186 [some (100000,0)]))],[(100000,.box 57 [.d (.list r0)])]⟩
@[reducible] def out234:Shape:=⟨[(0,.one (.own 200000))],[(100000,.box 57 [.d (.list r0)]),(200000,.lst 68 r0 false)]⟩
theorem st234 (R:Type):StepSound R cx234:=step_sound (all_fe (P:=Tryz.prog) (l:=[]) trivial) R
theorem st186 (R:Type):StepSound R cx186:=step_sound (all_fe (P:=Tryz.prog) (l:=[]) trivial) R
theorem runA (pre xs:List r0.D) (x:r0.D):runOps cx234 (opsOf as234).toList (opsOf as234).toList (embed shA (x.1,x.2.1,x.2.2.1,x.2.2.2.1,x.2.2.2.2.1,pre,xs,())) [] (fun _ τ => extract shB τ) = some (pre,xs,x.1,x.2.1,x.2.2.1,x.2.2.2.1,x.2.2.2.2.1,()):=by kernel_rfl
theorem runB (pre xs:List r0.D) (x:r0.D):runOps cx234 (opsOf (sub [0] bo234)).toList (opsOf (sub [0] bo234)).toList (embed shB (pre,xs,x.1,x.2.1,x.2.2.1,x.2.2.2.1,x.2.2.2.2.1,())) [] (fun _ τ => extract shC τ) =
 bif decide (List.length pre + List.length [(x.1,x.2.1,x.2.2.1,x.2.2.2.1,x.2.2.2.2.1,())] ≤ 2513169434916) then some (pre ++ [(x.1,x.2.1,x.2.2.1,x.2.2.2.1,x.2.2.2.2.1,())],xs,()) else none:=by kernel_rfl
theorem runE (pre xs:List r0.D):runOps cx234 (opsOf (sub [1,1,0] b234)).toList (opsOf (sub [1,1,0] b234)).toList (embed shD (pre,xs,())) [] (fun _ τ => extract shE τ) = some (xs,pre,()):=by kernel_rfl
def memC (pre xs:List r0.D):Mem:=(embed shC (pre,xs,())).blk
structure JJ (g1:Gh) (W1:World) (l D:Nat) (rec:Loop) (xs pre:List r0.D) (W:World):Prop where
 h:∃ gh,HeapOK gh (memC pre xs) W ∧ Tr g1 (memC [] xs) W1 gh (memC pre xs) W
 L:W.heap[l]? = some (.loop rec)
 D:W.heap[D]? = some (.deferred (some []))
structure RecOK (g1:Gh) (rec:Loop):Prop where
 state:rec.state = .ready
 pending:rec.pending = none
 params:rec.params = #[7]
 asg:rec.assign = .region 2 (opsOf as234) false
 body:rec.body = .block 1 (.region 3 (opsOf (sub [0] bo234)) false)
 size:rec.tmps.size = 13
 ptr:∃ b,g1.val 100001 = .pointer (some ⟨b,0,none⟩) ∧ rec.tmps.getD 2 undef = .pointer (some ⟨b,0,none⟩)
theorem mem_noIt:∀ (l:List (Nat × SBlk)) (p:memP l),(l.all fun e => match e.2 with | .it => false | _ => true) = true → ∀ id s q,lookM id (emMem l p) ≠ some (.it s q)
 | [],_,_,_,_,_ => by simp [emMem,lookM]
 | e :: l,p,h,id,s,q => by
  simp only [List.all_cons,Bool.and_eq_true] at h
  show (bif Nat.beq e.1 id then some (emBlk e.2 p).1 else lookM id (emMem l (emBlk e.2 p).2)) ≠ _
  cases Nat.beq e.1 id with
  | false => exact mem_noIt l _ h.2 id s q
  | true =>
   obtain ⟨i,b⟩:=e
   cases b with
   | it => cases h.1
   | _ => intro h'; cases h'
theorem emb_noIt {sh:Shape} (h:(sh.mem.all fun e => match e.2 with | .it => false | _ => true) = true) (p:sh.D):∀ id s q,(embed sh p).blk id ≠ some (.it s q):=fun id s q => mem_noIt sh.mem _ h id s q
theorem noC (pre xs:List r0.D):∀ id s q,memC pre xs id ≠ some (.it s q):=emb_noIt (sh:=shC) rfl (pre,xs,())
theorem lookup_ne {pre xs:List r0.D}:memC pre xs 100001 ≠ none:=by simp [memC,St.blk,embed,emMem,emEnv,lookM]
theorem yield_ok {g1:Gh} (hgr:Ground Tryz.prog g1.K) {W1:World} {l D:Nat} {rec:Loop} {xs pre:List r0.D} {W:World} (hr:RecOK g1 rec) (hl:W1.heap.size ≤ l) (hD:W1.heap.size ≤ D) (hlD:D ≠ l) (hJ:JJ g1 W1 l D rec xs pre W) (hlim:pre.length + 1 ≤ 2513169434916)
  (x:r0.D) (vs:Array Value) (hx:RepCs g1 (fun _ => none) W (cellsOf r0 x) vs.toList) :
  YieldAt Fence.wide 0 Tryz.prog l #[.agg vs] W fun e W' => e = .returned (.bool true) ∧ JJ g1 W1 l D rec xs (pre ++ [x]) W':=by
 obtain ⟨⟨gh,H,T⟩,hL,hDD⟩:=hJ
 have hy:=run_yield (P:=Tryz.prog) (args:=#[Value.agg vs]) hL (by rw [hr.params]; rfl)
 rw [hr.params] at hy
 have hzip:(((#[7]:Array Tmp).zip #[Value.agg vs]).foldl (fun tmps (x:Tmp × Value) => tmps.setIfInBounds x.1 x.2) rec.tmps) = rec.tmps.setIfInBounds 7 (.agg vs):=by simp
 refine ⟨rec.fn,rec.tmps.setIfInBounds 7 (.agg vs),rec.assign,rec.body,by rw [← hzip]; exact hy,?_⟩
 refine roundIn_of_wpIn trivial ?_
 rw [hr.asg]
 show (Code.region 2 (opsOf as234) false).wpIn (Fw (some l)) 0 cx234.T _ _ W
 obtain ⟨b,hb1,hb2⟩:=hr.ptr
 have hb:gh.val 100001 = .pointer (some ⟨b,0,none⟩):=by rw [(T.pin 100001 rfl lookup_ne).2]; exact hb1
 let C:Ctx:=⟨gh,memC pre xs,W,13⟩
 refine region_in (C:=C) (gh:=gh) st234 (by kernel_rfl) (runA pre xs x) ⟨rfl,by show Ground Tryz.prog gh.K; rw [T.K]; exact hgr⟩ ⟨rfl,?_,?_,H,Tr.refl _ _ _⟩ ?_
 ·show (rec.tmps.setIfInBounds 7 (.agg vs)).size = 13
  rw [Array.size_setIfInBounds]
  exact hr.size
 ·intro s
  have he:(embed shA (x.1,x.2.1,x.2.2.1,x.2.2.2.1,x.2.2.2.2.1,pre,xs,())).env = [(2,.v (.one (.ptr 100001 0))),(7,.v (.row (cellsOf r0 x)))]:=rfl
  show RepV gh (memC pre xs) W (lookE s (embed shA (x.1,x.2.1,x.2.2.1,x.2.2.2.1,x.2.2.2.2.1,pre,xs,())).env) ((rec.tmps.setIfInBounds 7 (.agg vs)).getD s undef)
  rw [he]
  have hsz:=hr.size
  match s with
  | 2 =>
   refine ⟨lookup_ne,b,hb,?_⟩
   rw [← hb2]
   simp [Array.getD_eq_getD_getElem?]
  | 7 =>
   refine ⟨vs,?_,repCs_mono T.S (fun _ _ => rfl) (fun id hid => absurd rfl hid) hx⟩
   simp [Array.getD_eq_getD_getElem?,hsz]
  | 0 | 1 | 3 | 4 | 5 | 6 => trivial
  | n + 8 => trivial
 intro τ hτ gh1 a1 w1 hs1
 obtain ⟨gh2,hs2⟩:=sim_extract hτ hs1
 have hlt:l < W.heap.size:=(Array.getElem?_eq_some_iff.1 hL).1
 have H2:HeapOK gh2 (embed shB (pre,xs,x.1,x.2.1,x.2.2.1,x.2.2.2.1,x.2.2.2.2.1,())).blk w1:=hs2.heap
 have T2:Tr gh (memC pre xs) W gh2 (embed shB (pre,xs,x.1,x.2.1,x.2.2.1,x.2.2.2.1,x.2.2.2.2.1,())).blk w1:=hs2.tr
 have hL1:=other_same H (noC _ _) T2 hL (by simp) (by simp)
 have hD1:=other_same H (noC _ _) T2 hDD (by simp) (by simp)
 have hA:=Aside.putObj (o':=.loop { rec with state:=.busy }) hL1 hl (by simp) (by simp)
 have hg2:=aside H2 (emb_noIt (sh:=shB) rfl _) (T.trans T2) (Nat.le_refl _) hA
 have hc2:=aside_cell H2 hA
 have hL2:(w1.putObj l (.loop { rec with state:=.busy })).heap[l]? = some (.loop { rec with state:=.busy }):=World.putObj_heap_same (Array.getElem?_eq_some_iff.1 hL1).1
 have hD2:(w1.putObj l (.loop { rec with state:=.busy })).heap[D]? = some (.deferred (some [])):=(World.putObj_heap_other hlD).trans hD1
 have hbr:=run_beginRound (P:=Tryz.prog) hL1 hr.state
 generalize w1.putObj l (.loop { rec with state:=.busy }) = w2 at hg2 hL2 hD2 hc2 hbr
 obtain ⟨H3,T3⟩:=hg2
 refine ⟨w2,hbr,?_⟩
 rw [hr.body]
 refine wpIn_block ?_
 show (Code.region 3 (opsOf (sub [0] bo234)) false).wpIn (Fw (some l)) 0 cx234.T _ _ _
 have hB:runOps cx234 (opsOf (sub [0] bo234)).toList (opsOf (sub [0] bo234)).toList (embed shB (pre,xs,x.1,x.2.1,x.2.2.1,x.2.2.2.1,x.2.2.2.2.1,())) [] (fun _ τ => extract shC τ) = some (pre ++ [x],xs,()):=by
  rw [runB]
  have:decide (List.length pre + List.length [(x.1,x.2.1,x.2.2.1,x.2.2.2.1,x.2.2.2.2.1,())] ≤ 2513169434916) = true:=decide_eq_true hlim
  rw [this]
  rfl
 refine region_in (C:=⟨gh2,(embed shB (pre,xs,x.1,x.2.1,x.2.2.1,x.2.2.2.1,x.2.2.2.2.1,())).blk,w2,13⟩) (gh:=gh2) st234 (by kernel_rfl) hB ⟨rfl,by show Ground Tryz.prog gh2.K; rw [T2.K,T.K]; exact hgr⟩ ⟨hs2.defers,hs2.size,fun s => repV_mono (g:=gh2) (w:=w1) (fun _ h => h) hc2 (fun id hid => ⟨hid,rfl⟩) (hs2.env s),H3,Tr.refl _ _ _⟩ ?_
 intro τ3 hτ3 gh3 a3 w3 hs3
 obtain ⟨gh4,hs4⟩:=sim_extract hτ3 hs3
 have H4:HeapOK gh4 (memC (pre ++ [x]) xs) w3:=hs4.heap
 have T4:Tr gh2 _ w2 gh4 (memC (pre ++ [x]) xs) w3:=hs4.tr
 have hL3:=other_same H3 (emb_noIt (sh:=shB) rfl _) T4 hL2 (by simp) (by simp)
 have hD3:=other_same H3 (emb_noIt (sh:=shB) rfl _) T4 hD2 (by simp) (by simp)
 refine ⟨_,_,run_endRound none hL3,rfl,?_⟩
 have hrec:({ { rec with state:=.busy } with state:=if (none:Option Code).isNone then .ready else .done,pending:=none }:Loop) = rec:=by
  have h1:=hr.state; have h2:=hr.pending
  cases rec; simp_all
 rw [hrec]
 have hg5:=aside H4 (noC _ _) (T3.trans T4) (Nat.le_refl _) (Aside.putObj (o':=.loop rec) hL3 hl (by simp) (by simp))
 exact ⟨⟨gh4,hg5⟩,World.putObj_heap_same (Array.getElem?_eq_some_iff.1 hL3).1,(World.putObj_heap_other hlD).trans hD3⟩
theorem ops186_0 : opsOf (sub [0] b186) = [{ dst := some 5, op := Go.Op.load 57 (Go.Operand.tmp 1), type := 57, pos := "iter.go:39", after := #[], guard := none },
       { dst := some 6, op := Go.Op.call { callee := Go.Callee.builtin Go.Builtin.len, args := #[Go.Operand.tmp 5], argTypes := #[57] }, type := 3, pos := "iter.go:39", after := #[{ on := 0, ground := Go.Ground.data }], guard := none },
       { dst := some 7, op := Go.Op.move (Go.Operand.const (Go.Value.int Go.IntKind.i64 0)), type := 3, pos := "iter.go:39", after := #[], guard := none }].toArray := by kernel_rfl
theorem reg84_0 {l Bx:Nat} {p:Option Addr} {n cap:Nat} {W:World} {Q:Exit → Act → World → Prop} (hc:W.cell? ⟨Bx,0,none⟩ = some (.slice p n cap))
  (h:Q .normal ⟨#[.func (.yield l) #[] #[],.pointer (some ⟨Bx,0,none⟩),undef,undef,undef,.slice p n cap,.int .i64 n,.int .i64 0,undef,undef,undef,undef,undef,undef,undef,undef],[]⟩ W) :
  (Code.region 0 (opsOf (sub [0] b186)) false).wpIn Fence.wide 0 Tryz.prog Q ⟨#[.func (.yield l) #[] #[],.pointer (some ⟨Bx,0,none⟩),undef,undef,undef,undef,undef,undef,undef,undef,undef,undef,undef,undef,undef,undef],[]⟩ W:=by
 rw [ops186_0]
 have t29:=Tryz.underlying57; have a29:=Tryz.isAgg57; have z29:=Tryz.sizeOf57; have v29:=Tryz.zeroValue57
 have t3:=Tryz.underlying3; have a3:=Tryz.isAgg3; have z3:=Tryz.sizeOf3; have v3:=Tryz.zeroValue3
 have u29:=run_underlying t29; have u3:=run_underlying t3
 gi_wp2
 exact h
noncomputable def sv186 (u:Value) (xs:List r0.D) (n i:Int):St:=⟨[(0,.v (.one (.raw u))),(5,.v (.one (.c (.list r0) xs))),(6,.v (.one (.c (.int .i64) n))),(7,.v (.one (.c (.int .i64) i)))],[]⟩
noncomputable def sw186:St:=⟨[(13,.v (.one (.c .bool true)))],[]⟩
noncomputable def q186:List Oper:=(opsOf (sub [1,0,0,1,1,0,0,1,0] b186)).toList
theorem run186_1 (u:Value) (xs:List r0.D) (n i:Int):runOps cx186 (opsOf (sub [1,0,0,0] b186)).toList (opsOf (sub [1,0,0,0] b186)).toList (sv186 u xs n i) [] (fun _ τ => some (τ.get 8)) = some (.v (.one (.c .bool (decide (i < n))))):=by kernel_rfl
theorem run186_2 (u:Value) (xs:List r0.D) (n i:Int):runOps cx186 (opsOf (sub [1,0,0,1,1,0,0,0] b186)).toList (opsOf (sub [1,0,0,1,1,0,0,0] b186)).toList (sv186 u xs n i) [] (fun _ τ => runOps cx186 q186 (q186.take 2) τ [] fun _ τ => some (τ.get 11,τ.get 12)) =
 bif decide (Int.ofNat 0 ≤ i) then Option.bind xs[Int.toNat i]? fun (y:r0.D) => some (.v (.one (.raw u)),.v (.row (cellsOf r0 y))) else none:=by kernel_rfl
theorem run186_3:runOps cx186 q186 (q186.drop 3) sw186 [] (fun _ τ => some (τ.get 14)) = some (.v (.one (.c .bool false))):=by kernel_rfl
theorem run186_4 (u:Value) (xs:List r0.D) (n i:Int):runOps cx186 (opsOf (sub [1,0,0,1,1,1] b186)).toList (opsOf (sub [1,0,0,1,1,1] b186)).toList (sv186 u xs n i) [] (fun _ τ => some (τ.get 7)) = some (.v (.one (.c (.int .i64) (IntKind.wrap IntKind.i64 (i + Int.ofNat 1))))):=by kernel_rfl
section
variable {g1:Gh} {W1:World} {l D:Nat} {rec:Loop} {xs pre:List r0.D}
theorem JJ.grow {W W':World} {g g':Gh} {m':Mem} (h:JJ g1 W1 l D rec xs pre W) (T:Tr g (fun _ => none) W g' m' W'):JJ g1 W1 l D rec xs pre W':=by
 obtain ⟨⟨gh,H,T0⟩,hL,hD⟩:=h
 have hk:∀ k,k < W.heap.size → W'.heap[k]? = W.heap[k]?:=fun k hk => T.same k hk fun id b hb => by cases hb
 exact ⟨⟨gh,aside H (noC _ _) T0 (Nat.le_refl _) (tr_aside _ T)⟩,(hk l (Array.getElem?_eq_some_iff.1 hL).1).trans hL,(hk D (Array.getElem?_eq_some_iff.1 hD).1).trans hD⟩
theorem JJ.cell {W:World} (h:JJ g1 W1 l D rec xs pre W):∀ x,g1.S x → W.cell? x = W1.cell? x:=fun x hx => by
 obtain ⟨⟨gh,H,T0⟩,_⟩:=h
 exact T0.scell x hx
theorem JJ.none {W:World} (h:JJ g1 W1 l D rec xs pre W):HeapOK g1 (fun _ => none) W:=by
 obtain ⟨⟨gh,H,T0⟩,_⟩:=h
 exact ⟨⟨fun id b h => (by cases h),fun i j b c h => (by cases h),fun x hx id b h => (by cases h),fun x hx => H.st x (T0.S x hx)⟩,fun k cs hk => ⟨(H.gr k cs (by rw [T0.K]; exact hk)).1,fun id b h => by cases h⟩⟩
structure In186 (g1:Gh) (W1:World) (l D:Nat) (rec:Loop) (xs:List r0.D) (v:Value) (i:Nat) (a:Act) (W:World):Prop where
 defers:a.defers = []
 size:a.tmps.size = 16
 t0:a.tmps.getD 0 undef = .func (.yield l) #[] #[]
 t5:a.tmps.getD 5 undef = v
 t6:a.tmps.getD 6 undef = .int .i64 xs.length
 t7:a.tmps.getD 7 undef = .int .i64 i
 jj:JJ g1 W1 l D rec xs (xs.take i) W
theorem In186.sim {v:Value} {i:Nat} {a:Act} {W:World} (hv:RepD g1.S W1 (.list r0) xs v) (h:In186 g1 W1 l D rec xs v i a W):Sim ⟨g1,fun _ => none,W,16⟩ g1 (sv186 (.func (.yield l) #[] #[]) xs xs.length i) a W:=by
 refine ⟨h.defers,h.size,fun s => ?_,h.jj.none,Tr.refl _ _ _⟩
 show RepV g1 (fun _ => none) W (lookE s (sv186 (.func (.yield l) #[] #[]) xs xs.length i).env) _
 match s with
 | 0 => exact ⟨h.t0,rfl,rfl⟩
 | 5 =>
  show RepD g1.S W (.list r0) xs _
  rw [h.t5]
  exact repD_mono (fun _ h => h) h.jj.cell hv
 | 6 => exact h.t6
 | 7 => exact h.t7
 | 1 | 2 | 3 | 4 => trivial
 | n + 8 => trivial
abbrev Fix (l:Nat) (v n i:Value) (t:Array Value):Prop:=t.getD 0 undef = .func (.yield l) #[] #[] ∧ t.getD 5 undef = v ∧ t.getD 6 undef = n ∧ t.getD 7 undef = i
theorem fix_keep {v n i:Value} {os:List Oper} (h0:os.all (fun o => match o.dst with | some d => !Nat.beq d 0 | none => true) = true) (h5:os.all (fun o => match o.dst with | some d => !Nat.beq d 5 | none => true) = true)
  (h6:os.all (fun o => match o.dst with | some d => !Nat.beq d 6 | none => true) = true) (h7:os.all (fun o => match o.dst with | some d => !Nat.beq d 7 | none => true) = true):Keep (Fix l v n i) os:=
 keep_and (keep_slot h0) (keep_and (keep_slot h5) (keep_and (keep_slot h6) (keep_slot h7)))
theorem values_ok (hgr:Ground Tryz.prog g1.K) {W0:World} {Bx:Nat} {v:Value} (hr:RecOK g1 rec) (hl:W1.heap.size ≤ l) (hD:W1.heap.size ≤ D) (hlD:D ≠ l) (hJ:JJ g1 W1 l D rec xs [] W0) (hv:RepD g1.S W1 (.list r0) xs v) (hc:W0.cell? ⟨Bx,0,none⟩ = some v) (hlim:xs.length ≤ 2513169434916) :
  CallsIn Fence.wide 0 Tryz.prog 186 #[.func (.yield l) #[] #[],.pointer (some ⟨Bx,0,none⟩)] W0 fun e W' => (∃ u,e = .returned u) ∧ JJ g1 W1 l D rec xs xs W':=by
 have hb:Tryz.f186.body = some b186:=by kernel_rfl
 have hf:Tryz.prog.funcs[186]? = some Tryz.f186:=by kernel_rfl
 refine callsIn_of_wp hf hb trivial ?_
 have ht:(#[Value.func (.yield l) #[] #[],Value.pointer (some ⟨Bx,0,none⟩)] ++ Array.replicate (Tryz.f186.ntmps - (#[Value.func (.yield l) #[] #[],Value.pointer (some ⟨Bx,0,none⟩)]:Array Value).size) undef) =
  #[.func (.yield l) #[] #[],.pointer (some ⟨Bx,0,none⟩),undef,undef,undef,undef,undef,undef,undef,undef,undef,undef,undef,undef,undef,undef]:=rfl
 rw [ht,b186_eq]
 obtain ⟨p,cap,hvs,_⟩:=repD_list.1 hv
 refine wpIn_seq (reg84_0 (by rw [hc,hvs]) ?_)
 rw [← hvs]
 show Code.wpIn _ _ _ _ _ _ _
 refine wpIn_block (wpIn_loop (fun a W => ∃ i,i ≤ xs.length ∧ In186 g1 W1 l D rec xs v i a W) (fun a _ => match a.tmps.getD 7 undef with | .int _ z => xs.length - z.toNat | _ => 0) ⟨0,Nat.zero_le _,⟨rfl,rfl,rfl,rfl,rfl,rfl,by simpa using hJ⟩⟩ ?_)
 rintro a W ⟨i,hi,hin⟩
 have hS:=hin.sim hv
 have hfix:Fix l v (.int .i64 xs.length) (.int .i64 i) a.tmps:=⟨hin.t0,hin.t5,hin.t6,hin.t7⟩
 refine wpIn_seq ?_
 refine region_in' (ro:=none) (cx:=cx186) st186 (by kernel_rfl) (fix_keep (l:=l) (v:=v) (n:=.int .i64 xs.length) (i:=.int .i64 i) (by kernel_rfl) (by kernel_rfl) (by kernel_rfl) (by kernel_rfl)) (run186_1 _ xs xs.length i) (by exact ⟨rfl,hgr⟩) hS hfix ?_
 intro τ hτ gh1 a1 w1 hs1 ⟨k0,k5,k6,k7⟩
 injection hτ with hτ
 have h8:a1.tmps.getD 8 undef = .bool (decide ((i:Int) < xs.length)):=by
  have:=hs1.env 8
  rw [hτ] at this
  exact this
 have hin1:In186 g1 W1 l D rec xs v i a1 w1:=⟨hs1.defers,hs1.size,k0,k5,k6,k7,hin.jj.grow hs1.tr⟩
 refine wpIn_seq (wpIn_cond_split (t:=decide ((i:Int) < xs.length)) h8 (fun hlt => wpIn_skip ?_) (fun hge => wpIn_exit ?_))
 ·-- an element
  have hlt:i < xs.length:=by simpa using hlt
  refine wpIn_seq (wpIn_block (wpIn_seq ?_))
  have hy:xs[i]? = some xs[i]:=List.getElem?_eq_getElem hlt
  have hrun:=run186_2 (.func (.yield l) #[] #[]) xs xs.length i
  rw [show decide (Int.ofNat 0 ≤ (i:Int)) = true by simp,cond_true,show Int.toNat (i:Int) = i from rfl,hy,Option.bind_some] at hrun
  refine region_in' (ro:=none) (cx:=cx186) st186 (by kernel_rfl) (fix_keep (l:=l) (v:=v) (n:=.int .i64 xs.length) (i:=.int .i64 i) (by kernel_rfl) (by kernel_rfl) (by kernel_rfl) (by kernel_rfl)) hrun (by exact ⟨rfl,hgr⟩) (hin1.sim hv) ⟨k0,k5,k6,k7⟩ ?_
  intro τ2 hτ2 gh2 a2 w2 hs2 hf2
  show Code.wpIn _ _ _ _ _ _ _
  refine wpIn_seq (wpIn_region ?_)
  rw [show List.range (opsOf (sub [1,0,0,1,1,0,0,1,0] b186)).size = List.range' 0 (q186.take 2).length ++ [2,3] by kernel_rfl]
  refine ops_in (ro:=none) (cx:=cx186) st186 (ops:=opsOf (sub [1,0,0,1,1,0,0,1,0] b186)) (os:=q186.take 2) (all:=q186) rfl (by kernel_rfl) (fix_keep (l:=l) (v:=v) (n:=.int .i64 xs.length) (i:=.int .i64 i) (by kernel_rfl) (by kernel_rfl) (by kernel_rfl) (by kernel_rfl)) ?_ hτ2 [2,3] (by exact ⟨rfl,hgr⟩) hs2 hf2 ?_
  ·intro j o h
   rw [List.getElem?_take] at h
   split at h
   ·rw [Nat.zero_add,← Array.getElem?_toList]; exact h
   ·cases h
  intro τ3 hτ3 gh3 a3 w3 hs3 ⟨j0,j5,j6,j7⟩
  injection hτ3 with hτ3
  have e11:a3.eval (.tmp 11) = .func (.yield l) #[] #[]:=by
   have:=hs3.env 11
   rw [(Prod.mk.inj hτ3).1] at this
   exact this.1
  obtain ⟨vs,e12,hrow⟩:∃ vs,a3.eval (.tmp 12) = .agg vs ∧ RepCs gh3 τ3.blk w3 (cellsOf r0 xs[i]) vs.toList:=by
   have:=hs3.env 12
   rw [(Prod.mk.inj hτ3).2] at this
   exact this
  have hJ3:JJ g1 W1 l D rec xs (xs.take i) w3:=hin1.jj.grow hs3.tr
  have hrow':RepCs g1 (fun _ => none) w3 (cellsOf r0 xs[i]) vs.toList:=by
   exact repCs_flat rfl hrow
  have hlen:(xs.take i).length + 1 ≤ 2513169434916:=by rw [List.length_take]; omega
  obtain ⟨fn,tmps,assign,body,hy1,hR⟩:=yield_ok hgr hr hl hD hlD hJ3 hlen xs[i] vs hrow'
  obtain ⟨o2,ho2,hg2,hd2,hop2⟩:∃ o:Oper,(opsOf (sub [1,0,0,1,1,0,0,1,0] b186))[2]? = some o ∧ o.guard = none ∧ o.dst = some 13 ∧ o.op = .call { callee:=.value (.tmp 11),args:=#[.tmp 12],argTypes:=#[68] }:=
   ⟨{ dst := some 13, op := Go.Op.call { callee := Go.Callee.value (Go.Operand.tmp 11), args := #[Go.Operand.tmp 12], argTypes := #[68] }, type := 4, pos := "iter.go:40", after := #[{ on := 0, ground := Go.Ground.data }, { on := 1, ground := Go.Ground.data }], guard := none }, by kernel_rfl, rfl, rfl, rfl⟩
  refine wpOpsIn_cons ho2 hg2 ?_
  refine ⟨fun _ _ => trivial,?_⟩
  have hy1:(Instr.yield l #[Value.agg vs]).run cx186.T w3 = .ok (.round l fn tmps assign body) w3:=hy1
  rw [Oper.semAt_eq _ _ _ (fun c h => by rw [hop2] at h; cases h),run_callyield hop2 rfl a3 e11 w3]
  rw [show (#[Operand.tmp 12].map a3.eval) = #[Value.agg vs] by simp [e12],hy1]
  refine ⟨fun h => by simp [Fw,Fence.wide] at h,?_⟩
  show RoundIn Fence.wide 0 Tryz.prog l fn tmps assign body w3 _
  refine hR.mono ?_
  rintro e W' ⟨rfl,hJ4⟩
  show wpOpsIn _ _ _ _ _ [3] _ _
  rw [hd2]
  have hput:∀ s,s ≠ 13 → (a3.put (some 13) (.bool true)).tmps.getD s undef = a3.tmps.getD s undef:=fun s hs => by
   show (a3.tmps.setIfInBounds 13 (.bool true)).getD s undef = _
   simp [Array.getD_eq_getD_getElem?,Array.getElem?_setIfInBounds,Ne.symm hs]
  have hf4:Fix l v (.int .i64 xs.length) (.int .i64 i) (a3.put (some 13) (.bool true)).tmps:=⟨(hput 0 (by decide)).trans j0,(hput 5 (by decide)).trans j5,(hput 6 (by decide)).trans j6,(hput 7 (by decide)).trans j7⟩
  have hsz3:(a3.put (some 13) (.bool true)).tmps.size = 16:=by
   show (a3.tmps.setIfInBounds 13 (.bool true)).size = 16
   rw [Array.size_setIfInBounds]
   exact hs3.size
  rw [show ([3]:List Nat) = List.range' 3 (q186.drop 3).length ++ [] by kernel_rfl]
  have hs4:Sim ⟨g1,fun _ => none,W',16⟩ g1 sw186 (a3.put (some 13) (.bool true)) W':=by
   refine ⟨hs3.defers,hsz3,fun s => ?_,hJ4.none,Tr.refl _ _ _⟩
   by_cases hs:s = 13
   ·subst hs
    show (a3.tmps.setIfInBounds 13 (.bool true)).getD 13 undef = .bool true
    simp [Array.getD_eq_getD_getElem?,hs3.size]
   ·have:sw186.get s = .v (.one .junk):=by
     unfold St.get sw186 lookE
     have:Nat.beq 13 s = false:=by
      rw [← Bool.not_eq_true]
      exact fun h => hs (Nat.eq_of_beq_eq_true h).symm
     rw [this]; rfl
    rw [this]; trivial
  refine ops_in (ro:=none) (cx:=cx186) st186 (ops:=opsOf (sub [1,0,0,1,1,0,0,1,0] b186)) (os:=q186.drop 3) (all:=q186) (i:=3) rfl (by kernel_rfl) (fix_keep (l:=l) (v:=v) (n:=.int .i64 xs.length) (i:=.int .i64 i) (by kernel_rfl) (by kernel_rfl) (by kernel_rfl) (by kernel_rfl)) ?_ run186_3 [] (by exact ⟨rfl,hgr⟩) hs4 hf4 ?_
  ·intro j o h
   rw [List.getElem?_drop] at h
   rw [← Array.getElem?_toList]; exact h
  intro τ5 hτ5 gh5 a5 w5 hs5 ⟨m0,m5,m6,m7⟩
  injection hτ5 with hτ5
  have h14:a5.eval (.tmp 14) = .bool false:=by
   have:=hs5.env 14
   rw [hτ5] at this
   exact this
  show Code.wpIn _ _ _ _ _ _ _
  refine wpIn_cond_false h14 (wpIn_skip ?_)
  have hJ5:JJ g1 W1 l D rec xs (xs.take i ++ [xs[i]]) w5:=hJ4.grow hs5.tr
  have hs6:Sim ⟨g1,fun _ => none,w5,16⟩ g1 (sv186 (.func (.yield l) #[] #[]) xs xs.length i) a5 w5:=by
   refine ⟨hs5.defers,hs5.size,fun s => ?_,hJ5.none,Tr.refl _ _ _⟩
   show RepV g1 (fun _ => none) w5 (lookE s (sv186 (.func (.yield l) #[] #[]) xs xs.length i).env) _
   match s with
   | 0 => exact ⟨m0,rfl,rfl⟩
   | 5 =>
    show RepD g1.S w5 (.list r0) xs _
    rw [m5]
    exact repD_mono (fun _ h => h) hJ5.cell hv
   | 6 => exact m6
   | 7 => exact m7
   | 1 | 2 | 3 | 4 => trivial
   | n + 8 => trivial
  show Code.wpIn _ _ _ _ _ _ _
  refine region_in' (ro:=none) (cx:=cx186) (I:=fun t => t.getD 0 undef = .func (.yield l) #[] #[] ∧ t.getD 5 undef = v ∧ t.getD 6 undef = .int .i64 xs.length) st186 (by kernel_rfl)
   (keep_and (keep_slot (by kernel_rfl)) (keep_and (keep_slot (by kernel_rfl)) (keep_slot (by kernel_rfl)))) (run186_4 _ xs xs.length i) (by exact ⟨rfl,hgr⟩) hs6 ⟨m0,m5,m6⟩ ?_
  intro τ7 hτ7 gh7 a7 w7 hs7 ⟨n0,n5,n6⟩
  injection hτ7 with hτ7
  have n7:a7.tmps.getD 7 undef = .int .i64 ((i + 1:Nat):Int):=by
   have h:=hs7.env 7
   rw [hτ7] at h
   have h:a7.tmps.getD 7 undef = .int .i64 (IntKind.wrap IntKind.i64 ((i:Int) + Int.ofNat 1)):=h
   rw [h]
   congr 1
   have:IntKind.wrap IntKind.i64 ((i:Int) + Int.ofNat 1) = (i:Int) + Int.ofNat 1:=IntWalk.i64_in _ (by simp; omega)
   rw [this]
   simp
  show (∃ j,j ≤ xs.length ∧ In186 g1 W1 l D rec xs v j a7 w7) ∧ _
  refine ⟨⟨i + 1,hlt,hs7.defers,hs7.size,n0,n5,n6,n7,?_⟩,?_⟩
  ·have:=hJ5.grow hs7.tr
   rwa [List.take_append_getElem hlt] at this
  ·show (match a7.tmps.getD 7 undef with | .int _ z => xs.length - z.toNat | _ => 0) < (match a.tmps.getD 7 undef with | .int _ z => xs.length - z.toNat | _ => 0)
   rw [n7,hin.t7]
   show xs.length - (i + 1) < xs.length - i
   omega
 ·-- the end
  have hge:xs.length ≤ i:=by simpa using hge
  have hi':i = xs.length:=by omega
  subst hi'
  simp only [Exit.then,Exit.inBlock,↓reduceIte]
  refine ⟨hin1.defers,_,results_none rfl _ _ _,⟨_,rfl⟩,?_⟩
  have:=hin1.jj
  rwa [List.take_length] at this
end
@[reducible] def shG:Shape:=⟨[(2,.one (.ptr 100001 0)),(6,.one (.clo 186 [some (100000,0)]))],[(100001,.box 57 [.own 200001]),(200001,.lst 68 r0 false),(100000,.box 57 [.d (.list r0)])]⟩
def exG (τ:St):Option (shG.D × Option (Option Nat) × Option (Option Nat)):=(matchShape [] shG τ).bind fun ρ => (exEnv τ shG.env (exMem τ.mem ρ shG.mem)).bind fun p => some (p,lookR 100001 ρ,lookR 100000 ρ)
theorem runG (xs:List r0.D):(runOps cx234 (opsOf (sub [0] b234)).toList (opsOf (sub [0] b234)).toList (embed sh234 (xs,())) [] fun _ τ => runOps cx234 (opsOf (sub [1,0,0] b234)).toList (opsOf (sub [1,0,0] b234)).toList τ [] (fun _ τ => exG τ)) = some (([],xs,()),some (some 2),some (some 100000)):=by kernel_rfl
def F234:sh234.D → Option out234.D:=fun p => bif decide (p.1.length ≤ 2513169434916) then some (p.1,p.1,()) else none
noncomputable def e234:FE:=⟨234,sh234,out234,F234⟩
theorem ok234:FEOK Tryz.prog e234:=by
 intro p res hF gh w args hsz H hargs hG
 obtain ⟨xs,u⟩:=p
 have hF:(bif decide (xs.length ≤ 2513169434916) then some (xs,xs,()) else none) = some res:=hF
 cases hcond:decide (xs.length ≤ 2513169434916) with
 | false => rw [hcond] at hF; cases hF
 | true =>
 rw [hcond] at hF
 injection hF with hF
 subst hF
 have hlim:xs.length ≤ 2513169434916:=of_decide_eq_true hcond
 have hb:Tryz.f234.body = some b234:=by kernel_rfl
 have hf:Tryz.prog.funcs[234]? = some Tryz.f234:=by kernel_rfl
 have hsz:args.size = 2:=hsz
 refine .inr ⟨enters_of hf (by kernel_rfl) rfl _ _,(callsIn_wide (n:=0)).1 (callsIn_of_wp_marks hf hb trivial ?_)⟩
 have hs0:Sim ⟨gh,(embed sh234 (xs,())).blk,w,13⟩ gh (embed sh234 (xs,())) { tmps:=args ++ Array.replicate (Tryz.f234.ntmps - args.size) undef,defers:=[] } w:=by
  refine ⟨rfl,by simp only [Array.size_append,Array.size_replicate]; rw [hsz]; rfl,fun s => ?_,H,Tr.refl _ _ _⟩
  have hg:(args ++ Array.replicate (Tryz.f234.ntmps - args.size) undef).getD s undef = args.getD s undef:=by
   simp only [Array.getD_eq_getD_getElem?,Array.getElem?_append,Array.getElem?_replicate]
   split
   ·rfl
   ·rename_i hlt
    rw [Array.getElem?_eq_none (by omega)]
    split <;> rfl
  rw [hg]
  exact hargs s
 rw [b234_eq]
 refine wpIn_seq ?_
 refine region_in (ro:=none) (cx:=cx234) st234 (by kernel_rfl) (runG xs) (by exact ⟨rfl,hG⟩) hs0 ?_
 intro τ1 hτ1 gh1 a1 w1 hs1
 show Code.wpIn _ _ _ _ _ _ _
 refine wpIn_seq (wpIn_seq ?_)
 refine region_in (ro:=none) (cx:=cx234) st234 (by kernel_rfl) hτ1 (by exact ⟨rfl,hG⟩) hs1 ?_
 intro τ2 hτ2 gh2 a2 w2 hs2
 -- the names of the rounds
 unfold exG at hτ2
 cases hm:matchShape [] shG τ2 with
 | none => rw [hm] at hτ2; cases hτ2
 | some ρ =>
 rw [hm,Option.bind_some] at hτ2
 cases hex:exEnv τ2 shG.env (exMem τ2.mem ρ shG.mem) with
 | none => rw [hex] at hτ2; cases hτ2
 | some q =>
 rw [hex,Option.bind_some] at hτ2
 injection hτ2 with hτ2
 obtain ⟨hq,hρ1,hρ0⟩:q = ([],xs,()) ∧ lookR 100001 ρ = some (some 2) ∧ lookR 100000 ρ = some (some 100000):=by
  simp only [Prod.mk.injEq] at hτ2
  exact hτ2
 subst hq
 have hfit:=fits (s:=shG) (σ:=τ2) (p:=([],xs,())) nil_inj hm (by rw [hm,Option.bind_some]; exact hex)
 have Hg:HeapOK (renGh gh2 ρ) (memC [] xs) w2:=heap_ren hs2.heap hfit.inj hfit.has hfit.mem
 have hids:∀ id b,memC [] xs id = some b → b.live = true → ∀ k,(renGh gh2 ρ).blk id = some k → w.heap.size ≤ k ∨ ∃ j c,(embed sh234 (xs,())).blk j = some c ∧ c.live = true ∧ gh.blk j = some k:=by
  intro id b hib hl k hk
  obtain ⟨j,c,_,h2,h3,h4⟩:=live_ren (gh:=gh2) hfit.mem hib hl hk
  exact hs2.tr.ids j c h2 h3 k h4
 have hv0:(renGh gh2 ρ).val 100000 = gh.val 100000:=by
  rw [ren_some hρ0]
  have hτn:τ2.blk 100000 ≠ none:=by
   have:=hfit.mem 100000 (.box 57 [.c (.list r0) xs]) rfl
   cases this with
   | box h h' _ =>
    rw [hρ0] at h; injection h with h; injection h with h; subst h
    intro e
    rw [St.blk,h'] at e
    cases e
  exact (hs2.tr.pin 100000 rfl hτn).2
 have h2v:RepV (renGh gh2 ρ) (memC [] xs) w2 (.v (.one (.ptr 100001 0))) (a2.tmps.getD 2 undef):=a1rel_rep hs2.heap hfit.has (hfit.env 2) (hs2.env 2)
 have h6v:RepV (renGh gh2 ρ) (memC [] xs) w2 (.v (.one (.clo 186 [some (100000,0)]))) (a2.tmps.getD 6 undef):=a1rel_rep hs2.heap hfit.has (hfit.env 6) (hs2.env 6)
 obtain ⟨_,b2,hb2,ht2⟩:=h2v
 obtain ⟨vs,ht6,hcaps⟩:=h6v
 obtain ⟨Bx,hvsl,hBx⟩:∃ Bx,vs = #[.pointer (some ⟨Bx,0,none⟩)] ∧ (renGh gh2 ρ).val 100000 = .pointer (some ⟨Bx,0,none⟩):=by
  obtain ⟨l⟩:=vs
  match l,hcaps with
  | [v0],.cons ⟨_,b,hb,hv⟩ .nil => subst hv; exact ⟨b,rfl,hb⟩
 subst hvsl
 have hcall:∃ v,w2.cell? ⟨Bx,0,none⟩ = some v ∧ RepD (renGh gh2 ρ).S w2 (.list r0) xs v ∧ ∃ t z vals,w2.heap[Bx]? = some (.cells vals t z):=by
  obtain ⟨g,vals,q1,q2,q3⟩:=Hg.blk 100000 (.box 57 [.c (.list r0) xs]) rfl
  rw [hBx] at q1
  have hg:Bx = g:=by injection q1 with q1; injection q1 with q1; injection q1
  subst hg
  obtain ⟨l⟩:=vals
  match l,q3 with
  | [v0],.cons hv .nil => exact ⟨v0,by simp [World.cell?,q2],hv,_,_,_,q2⟩
 obtain ⟨v,hcv,hvr,t9,z9,vals9,hblk9⟩:=hcall
 refine wpIn_block (wpIn_rangeFunc ?_)
 intro fn hfn
 let lp:Loop:={ state:=.ready,pending:=none,fn:=fn,tmps:=a2.tmps,params:=#[7],assign:=.region 2 (opsOf as234) false,body:=.block 1 (.region 3 (opsOf (sub [0] bo234)) false),defers:=w2.heap.size }
 obtain ⟨W1,hW1⟩:∃ W1,(w2.alloc (.deferred (some []))).alloc (.loop lp) = W1:=⟨_,rfl⟩
 have hs3:(w2.alloc (.deferred (some []))).heap.size = w2.heap.size + 1:=by simp
 have hAs:Aside w2.heap.size w2 W1:=by rw [← hW1]; exact (Aside.alloc _ _ _).trans (Aside.alloc _ _ _)
 have hLW:W1.heap[w2.heap.size + 1]? = some (.loop lp):=by
  rw [← hW1]
  have:=World.alloc_heap_new (w2.alloc (.deferred (some []))) (.loop lp)
  rwa [hs3] at this
 have hDW:W1.heap[w2.heap.size]? = some (.deferred (some [])):=by
  rw [← hW1]
  exact (Below.heap_alloc _ _ _ (by rw [hs3]; omega)).trans (World.alloc_heap_new w2 _)
 have hr:RecOK (renGh gh2 ρ) lp:=⟨rfl,rfl,rfl,rfl,rfl,hs2.size,b2,hb2,ht2⟩
 have hJ:JJ (renGh gh2 ρ) w2 (w2.heap.size + 1) w2.heap.size lp xs [] W1:=⟨⟨_,aside Hg (noC _ _) (Tr.refl _ _ _) (Nat.le_refl _) hAs⟩,hLW,hDW⟩
 have hcW:W1.cell? ⟨Bx,0,none⟩ = some v:=by
  rw [← hcv]
  exact World.cell?_of_block (by rw [hAs.cells _ _ _ _ hblk9,hblk9])
 have hval:=values_ok (g1:=renGh gh2 ρ) (show Ground Tryz.prog gh2.K by rw [hs2.tr.K]; exact hG) hr (by omega) (Nat.le_refl _) (by omega) hJ hvr hcW hlim
 refine ⟨w2.heap.size + 1,[{ target:=.collected w2.heap.size,args:=#[] }],W1,{ target:=.fn (.func 186) #[.pointer (some ⟨Bx,0,none⟩)],args:=#[.func (.yield (w2.heap.size + 1)) #[] #[]] },W1,186,
  #[.func (.yield (w2.heap.size + 1)) #[] #[],.pointer (some ⟨Bx,0,none⟩)],W1,?_,?_,?_,?_,fun h => by simp [Fence.wide] at h,?_⟩
 ·rw [← hW1]; exact run_enterLoop_outer _ _ _ _ _
 ·have he6:a2.eval (.tmp 6) = .func (.func 186) #[] #[.pointer (some ⟨Bx,0,none⟩)]:=ht6
  simp only [resolve,rangeCall,he6,Deferred.ofValue,Sem.run_bind,Sem.run_pure,Result.andThen_ok]
  simp [Act.eval]
 ·intro f' hf'; trivial
 ·have e186:∀ args w,(callFunc 186 args).run Tryz.prog w = .ok (.enter 186 args) w:=enters_of (show Tryz.prog.funcs[186]? = some Tryz.f186 by kernel_rfl) (by kernel_rfl) rfl
  simp [invoke,go_sem,e186]
 refine hval.mono ?_
 rintro e W2 ⟨⟨u,rfl⟩,⟨gh5,H5,T5⟩,hL5,hD5⟩
 have hend:=run_endLoop (P:=Tryz.prog) hL5 (by simp [lp])
 have hA5:=Aside.putObj (B:=w2.heap.size) (o':=.loop { lp with state:=.exhausted }) hL5 (by omega) (by simp) (by simp)
 obtain ⟨H6,T6⟩:=aside H5 (noC _ _) T5 (Nat.le_refl _) hA5
 have hD6:(W2.putObj (w2.heap.size + 1) (.loop { lp with state:=.exhausted })).heap[w2.heap.size]? = some (.deferred (some [])):=(World.putObj_heap_other (by omega)).trans hD5
 generalize W2.putObj (w2.heap.size + 1) (.loop { lp with state:=.exhausted }) = W3 at hend H6 T6 hD6
 refine ⟨none,W3,hend,?_⟩
 show Code.wpIn _ _ _ _ _ _ _
 refine wpIn_seq ?_
 have hd2:a2.defers = []:=hs2.defers
 have hpin:gh5.val 100001 = .pointer (some ⟨b2,0,none⟩):=by rw [(T6.pin 100001 rfl lookup_ne).2]; exact hb2
 have hs6:Sim ⟨gh5,memC xs xs,W3,13⟩ gh5 (embed shD (xs,xs,())) a2 W3:=by
  refine ⟨hd2,hs2.size,fun s => ?_,H6,Tr.refl _ _ _⟩
  show RepV gh5 (memC xs xs) W3 (lookE s [(2,.v (.one (.ptr 100001 0)))]) _
  match s with
  | 2 => exact ⟨lookup_ne,b2,hpin,ht2⟩
  | 0 | 1 => trivial
  | n + 3 => trivial
 have hact:({ a2 with defers:=[{ target:=.collected w2.heap.size,args:=#[] }] ++ a2.defers }:Act) = dfr [{ target:=.collected w2.heap.size,args:=#[] }] a2:=by rw [hd2]; rfl
 rw [hact]
 refine region_in_d (ro:=none) (cx:=cx234) st234 [{ target:=.collected w2.heap.size,args:=#[] }] (by kernel_rfl) (runE xs xs) ⟨rfl,by show Ground Tryz.prog gh5.K; rw [T6.K]; show Ground Tryz.prog gh2.K; rw [hs2.tr.K]; exact hG⟩ hs6 ?_
 intro τ7 hτ7 gh7 a7 w7 hs7
 obtain ⟨gh8,hs8⟩:=sim_extract hτ7 hs7
 have H8:HeapOK gh8 (embed shE (xs,xs,())).blk w7:=hs8.heap
 have T8:Tr gh5 (memC xs xs) W3 gh8 (embed shE (xs,xs,())).blk w7:=hs8.tr
 have hD7:=other_same H6 (noC _ _) T8 hD6 (by simp) (by simp)
 have hA9:=Aside.putObj (B:=w2.heap.size) (o':=.deferred none) hD7 (Nat.le_refl _) (by simp) (by simp)
 obtain ⟨H9,T9⟩:=aside H8 (emb_noIt (sh:=shE) rfl _) (T6.trans T8) (Nat.le_refl _) hA9
 have hc9:=aside_cell H8 hA9
 refine wpIn_ret ?_
 refine ⟨by simp,.inl ⟨_,_,rfl,run_takeDeferred hD7,?_⟩⟩
 refine ⟨_,results_tmp rfl _ _ _,_,rfl,gh8,H9,?_,?_⟩
 ·refine tr_join (g1:=renGh gh2 ρ) (m1:=memC [] xs) hs2.tr rfl rfl hids T9 fun id hp hne => ?_
  have:id = 100000 ∨ id = 200000:=by
   by_cases h0:id = 100000
   ·exact .inl h0
   ·by_cases h1:id = 200000
    ·exact .inr h1
    ·exfalso
     apply hne
     have e0:Nat.beq 100000 id = false:=by rw [← Bool.not_eq_true]; exact fun h => h0 (Nat.eq_of_beq_eq_true h).symm
     have e1:Nat.beq 200000 id = false:=by rw [← Bool.not_eq_true]; exact fun h => h1 (Nat.eq_of_beq_eq_true h).symm
     show lookM id [(100000,_),(200000,_)] = none
     simp only [lookM,e0,e1,cond_false]
  rcases this with rfl | rfl
  ·refine ⟨?_,((T9.pin 100000 rfl hne).2).trans hv0⟩
   show lookM 100000 [(100000,_)] ≠ none
   simp [lookM]
  ·cases hp
 ·have h4:RepV gh8 (embed shE (xs,xs,())).blk w7 (.v (.one (.own 200000))) (a7.tmps.getD 4 undef):=hs8.env 4
  exact repV_mono (g:=gh8) (w:=w7) (fun _ h => h) hc9 (fun id hid => ⟨hid,rfl⟩) h4
end Go.Vx.Z
/-! Loops, whole numbers. -/
namespace Go.Vx
open Go
set_option linter.unusedVariables false
section
variable {P E:Type} {B:P → Option (P ⊕ E)}
theorem loop_end {p:P} {e:E} (h:B p = some (.inr e)):loop B p = some e:=loop_of_iter (n:=1) (by simp [iter,h])
theorem loop_step {p q:P} {e:E} (h:B p = some (.inl q)) (hq:loop B q = some e):loop B p = some e:=by
 obtain ⟨n,hn⟩:=loop_iter hq
 exact loop_of_iter (n:=n + 1) (by simp [iter,h,hn])
theorem loop_inv (I:P → Prop) (m:P → Nat) (Q:E → Prop) (h:∀ p,I p → (∃ q,B p = some (.inl q) ∧ I q ∧ m q < m p) ∨ (∃ e,B p = some (.inr e) ∧ Q e)):∀ p,I p → ∃ e,loop B p = some e ∧ Q e:=by
 have key:∀ n p,m p < n → I p → ∃ e,loop B p = some e ∧ Q e:=by
  intro n
  induction n with
  | zero => intro p hn; omega
  | succ n ih =>
   intro p hn hp
   rcases h p hp with ⟨q,h1,h2,h3⟩ | ⟨e,h1,h2⟩
   ·obtain ⟨e,h4,h5⟩:=ih q (by omega) h2
    exact ⟨e,loop_step h1 h4,h5⟩
   ·exact ⟨e,loop_end h1,h2⟩
 intro p hp
 exact key (m p + 1) p (by omega) hp
theorem loop_row (st:Nat → P) (n:Nat) {e:E} (h:∀ i,i < n → B (st i) = some (.inl (st (i + 1)))) (he:B (st n) = some (.inr e)):loop B (st 0) = some e:=by
 have key:∀ k,k ≤ n → loop B (st (n - k)) = some e:=by
  intro k
  induction k with
  | zero => intro _; exact loop_end he
  | succ k ih =>
   intro hk
   refine loop_step (h (n - (k + 1)) (by omega)) ?_
   rw [show n - (k + 1) + 1 = n - k by omega]
   exact ih (by omega)
 have:=key n (Nat.le_refl _)
 rwa [Nat.sub_self] at this
end
theorem wrap64 {x:Int} (h0:-9223372036854775808 ≤ x) (h1:x ≤ 9223372036854775807):IntKind.wrap IntKind.i64 x = x:=IntWalk.i64_in x (by omega)
theorem wrap64s (i:Nat) (h:i < 9223372036854775807):IntKind.wrap IntKind.i64 ((i:Int) + 1) = ((i + 1:Nat):Int):=by
 rw [wrap64 (by omega) (by omega)]; omega
def bs (s:ByteArray):List UInt8:=s.data.toList
theorem bs_size (s:ByteArray):s.size = (bs s).length:=(Array.length_toList (xs:=s.data)).symm
theorem bs_toList (s:ByteArray):bl s = bs s:=rfl
theorem bs_inj {a b:ByteArray} (h:bs a = bs b):a = b:=by
 cases a; cases b
 simp only [bs,ByteArray.mk.injEq] at h ⊢
 exact Array.toList_inj.1 h
theorem bs_append (a b:ByteArray):bs (a ++ b) = bs a ++ bs b:=by
 simp [bs,ByteArray.data_append]
theorem bs_lit (l:List UInt8):bs (lit l) = l:=rfl
theorem bs_extract (s:ByteArray) (i j:Nat):bs (s.extract i j) = ((bs s).take j).drop i:=by
 simp [bs,ByteArray.data_extract,List.drop_take]
theorem bt_eq (s:ByteArray) (i:Nat) (h:i < s.size):bt s (i:Int) = (((bs s)[i]'(by rw [← bs_size]; exact h)).toNat:Int):=by
 unfold bt
 have:s[i]? = some ((bs s)[i]'(by rw [← bs_size]; exact h)):=by
  rw [getElem?_pos s i h]
  simp [bs,ByteArray.getElem_eq_getElem_data]
 simp [this]
end Go.Vx
namespace Go.Vx.Z
open _root_.Int (ofNat toNat)
open IntKind (wrap)
open _root_.ByteArray (size)
open _root_.List (length)
open _root_.Sum (inl inr elim)
open Go Go.Vx Go.Proofs
set_option linter.unusedVariables false
set_option maxRecDepth 1000000
set_option maxHeartbeats 4000000
theorem F24_eq (x0 x1:Int):F24 (x0,x1,()) =
 bif !decide (x1 = ofNat 0) then bif decide (Int.tmod x0 x1 < ofNat 0) then some (wrap .i64 (Int.tmod x0 x1 + x1),()) else some (Int.tmod x0 x1,()) else none:=by kernel_rfl
theorem F25_eq :F25 (()) =
 some ([(lit [97]),(lit [97,47,115,117,98]),(lit [98,47,99]),(lit [98,47,99,47,118,50]),(lit [100]),(lit [101,47,118,51]),(lit [101,47,118,52])],()):=by kernel_rfl
theorem F26_eq (x0:Int):F26 (x0,()) =
 bif decide (ofNat 0 ≤ x0) then Option.bind [ofNat 1,ofNat 1,ofNat 1,ofNat 2,ofNat 1,ofNat 3,ofNat 4][toNat x0]? fun y => some (y,()) else none:=by kernel_rfl
theorem F141_eq (x0:Int):F141 (x0,()) =
 bif decide (x0 ≥ ofNat 48) then some (decide (x0 ≤ ofNat 57),()) else some (false,()):=by kernel_rfl
theorem B142_0_eq (x0:ByteArray) (x1 x2:Int) (x3:List ByteArray):B142_0 (x0,x1,x2,x3,()) =
 bif decide (x2 ≤ ofNat (size x0)) then bif x2 == ofNat (size x0) then bif decide (ofNat 0 ≤ x1) && (decide (x1 ≤ x2) && decide (x2 ≤ ofNat (size x0))) then bif decide (length x3 + length [ByteArray.extract x0 (toNat x1) (toNat x2)] ≤ 8796093022208) then some (inl (x0,wrap .i64 (x2 + ofNat 1),wrap .i64 (x2 + ofNat 1),x3 ++ [ByteArray.extract x0 (toNat x1) (toNat x2)],())) else none else none else bif decide (ofNat 0 ≤ x2) && decide (x2 < ofNat (size x0)) then bif bt x0 x2 == ofNat 46 then bif decide (ofNat 0 ≤ x1) && (decide (x1 ≤ x2) && decide (x2 ≤ ofNat (size x0))) then bif decide (length x3 + length [ByteArray.extract x0 (toNat x1) (toNat x2)] ≤ 8796093022208) then some (inl (x0,wrap .i64 (x2 + ofNat 1),wrap .i64 (x2 + ofNat 1),x3 ++ [ByteArray.extract x0 (toNat x1) (toNat x2)],())) else none else none else some (inl (x0,x1,wrap .i64 (x2 + ofNat 1),x3,())) else none else some (inr (x3,())):=by kernel_rfl
theorem F142_eq (x0:ByteArray):F142 (x0,()) =
 Option.bind (loop B142_0 (x0,ofNat 0,ofNat 0,[],())) fun r => some (r.1,()):=by kernel_rfl
theorem B192_0_eq (x0:ByteArray) (x1:Int):B192_0 (x0,x1,()) =
 bif decide (x1 < ofNat (size x0)) then bif decide (ofNat 0 ≤ x1) && decide (x1 < ofNat (size x0)) then Option.bind (F141 (bt x0 x1,())) fun r => bif !r.1 then some (inr (inl (false,()))) else some (inl (x0,wrap .i64 (x1 + ofNat 1),())) else none else some (inr (inr (x0,()))):=by kernel_rfl
theorem F192_eq (x0:ByteArray):F192 (x0,()) =
 Option.bind (loop B192_0 (x0,ofNat 0,())) fun r => elim (fun p => some (p.1,())) (fun p => some (!bl p.1 == [],())) r:=by kernel_rfl
theorem B10_0_eq (x0:List Int) (x1:Bool) (x2 x3 x4:Int) (x5:ByteArray) (x6 x7 x8:Int) (x9:List R5) (x10:ByteArray) (x11 x12 x13:Int) (x14 x15 x16:ByteArray) (x17:List R2) (x18:List R3) (x19:List R1) (x20:List R0):B10_0 (x0,x1,x2,x3,x4,x5,x6,x7,x8,x9,x10,x11,x12,x13,x14,x15,x16,x17,x18,x19,x20,()) =
 bif decide (x8 < x2) then bif decide (ofNat (length x0) > ofNat 0) then bif !decide (ofNat (length x0) = ofNat 0) then bif decide (ofNat 0 ≤ Int.tmod x3 (ofNat (length x0))) then Option.bind x0[toNat (Int.tmod x3 (ofNat (length x0)))]? fun y => Option.bind (F24 (wrap .i64 (y + x3),ofNat 1073741824,())) fun r => bif x8 == x4 then some (inl (x0,x1,x2,wrap .i64 (x3 + ofNat 1),x4,x5,x6,x7,wrap .i64 (x8 + ofNat 1),x9,x10,x11,x12,x13,x14,x15,x16,x17,x18,x19,x20,())) else bif decide (Int.tmod r.1 (ofNat 5) > ofNat 1) then some (inl (x0,x1,x2,wrap .i64 (x3 + ofNat 1),x4,x5,x6,x7,wrap .i64 (x8 + ofNat 1),x9,x10,x11,x12,x13,x14,x15,x16,x17,x18,x19,x20,())) else Option.bind (F26 (x8,())) fun r_1 => Option.bind (F27 (x8,())) fun r_2 => bif decide (ofNat 0 ≤ Int.tmod (wrap .i64 (Int.tdiv r.1 (ofNat 5))) (ofNat 5)) then Option.bind [(r_1.1,ofNat 0,ofNat 0,(lit []),()),(r_1.1,ofNat 1,ofNat 0,(lit []),()),(r_2.1,r_2.2.1,r_2.2.2.1,r_2.2.2.2.1,()),(r_1.1,ofNat 2,ofNat 0,(lit [114,99,46,49]),()),(r_1.1,ofNat 2,ofNat 0,(lit []),())][toNat (Int.tmod (wrap .i64 (Int.tdiv r.1 (ofNat 5))) (ofNat 5))]? fun y => Option.bind (F25 ()) fun r => bif decide (ofNat 0 ≤ x8) then Option.bind r.1[toNat x8]? fun y_1 => bif decide (length x20 + length [(y_1,y.1,y.2.1,y.2.2.1,y.2.2.2.1,())] ≤ 2513169434916) then some (inl (x0,x1,x2,wrap .i64 (x3 + ofNat 1),x4,x5,x6,x7,wrap .i64 (x8 + ofNat 1),x9,x10,x11,x12,x13,x14,x15,x16,x17,x18,x19,x20 ++ [(y_1,y.1,y.2.1,y.2.2.1,y.2.2.2.1,())],())) else none else none else none else none else none else some (inr (x0,x1,x2,x3,x4,x5,x6,x7,x9,x10,x11,x12,x13,x14,x15,x16,x17,x18,x19,x20,())) else some (inr (x0,x1,x2,x3,x4,x5,x6,x7,x9,x10,x11,x12,x13,x14,x15,x16,x17,x18,x19,x20,())):=by kernel_rfl
theorem B10_1_eq (x0:List Int) (x1:Bool) (x2 x3 x4:Int) (x5:ByteArray) (x6 x7:Int) (x8:List R5) (x9:ByteArray) (x10:List R2) (x11:List R3) (x12:List R1):B10_1 (x0,x1,x2,x3,x4,x5,x6,x7,x8,x9,x10,x11,x12,()) =
 bif decide (x7 < ofNat (length x8)) then bif decide (ofNat 0 ≤ x7) then Option.bind x8[toNat x7]? fun y => Option.bind (F28 (wrap .i64 (wrap .i64 (ofNat 10 * x4) + x7),())) fun r => bif fitsS (lit [104]) r.1 then bif fitsS ((lit [104]) ++ r.1) (lit [61]) then Option.bind (F28 (wrap .i64 (wrap .i64 (ofNat 10 * x4) + x7),())) fun r_1 => bif fitsS (lit [109]) r_1.1 then Option.bind (loop B10_0 (x0,x1,x2,x3,x4,x5,x6,x7,ofNat 0,x8,x9,y.1,y.2.1,y.2.2.1,y.2.2.2.1,(lit [104]) ++ r.1 ++ (lit [61]),(lit [109]) ++ r_1.1,x10,x11,x12,[],())) fun r => bif !r.2.1 then bif decide (ofNat (length r.1) > ofNat 0) then bif !decide (ofNat (length r.1) = ofNat 0) then bif decide (ofNat 0 ≤ Int.tmod (wrap .i64 (r.2.2.2.1 + r.2.2.2.2.2.2.2.1)) (ofNat (length r.1))) then Option.bind r.1[toNat (Int.tmod (wrap .i64 (r.2.2.2.1 + r.2.2.2.2.2.2.2.1)) (ofNat (length r.1)))]? fun y => Option.bind (F24 (y,ofNat 23,())) fun r_2 => bif r_2.1 == ofNat 0 then bif decide (length r.2.2.2.2.2.2.2.2.2.2.2.2.2.2.2.2.2.2.1 + length [(r.2.2.2.2.2.2.2.2.2.2.1,r.2.2.2.2.2.2.2.2.2.2.2.1,r.2.2.2.2.2.2.2.2.2.2.2.2.1,r.2.2.2.2.2.2.2.2.2.2.2.2.2.1,r.2.2.2.2.2.2.2.2.2.2.2.2.2.2.2.2.2.2.2.1,(lit []),r.2.2.2.2.2.2.2.2.2.2.2.2.2.2.2.1,())] ≤ 1466015503701) then some (inl (r.1,r.2.1,r.2.2.1,r.2.2.2.1,r.2.2.2.2.1,r.2.2.2.2.2.1,r.2.2.2.2.2.2.1,wrap .i64 (r.2.2.2.2.2.2.2.1 + ofNat 1),r.2.2.2.2.2.2.2.2.1,r.2.2.2.2.2.2.2.2.2.1,r.2.2.2.2.2.2.2.2.2.2.2.2.2.2.2.2.1,r.2.2.2.2.2.2.2.2.2.2.2.2.2.2.2.2.2.1,r.2.2.2.2.2.2.2.2.2.2.2.2.2.2.2.2.2.2.1 ++ [(r.2.2.2.2.2.2.2.2.2.2.1,r.2.2.2.2.2.2.2.2.2.2.2.1,r.2.2.2.2.2.2.2.2.2.2.2.2.1,r.2.2.2.2.2.2.2.2.2.2.2.2.2.1,r.2.2.2.2.2.2.2.2.2.2.2.2.2.2.2.2.2.2.2.1,(lit []),r.2.2.2.2.2.2.2.2.2.2.2.2.2.2.2.1,())],())) else none else bif decide (length r.2.2.2.2.2.2.2.2.2.2.2.2.2.2.2.2.2.2.1 + length [(r.2.2.2.2.2.2.2.2.2.2.1,r.2.2.2.2.2.2.2.2.2.2.2.1,r.2.2.2.2.2.2.2.2.2.2.2.2.1,r.2.2.2.2.2.2.2.2.2.2.2.2.2.1,r.2.2.2.2.2.2.2.2.2.2.2.2.2.2.2.2.2.2.2.1,r.2.2.2.2.2.2.2.2.2.2.2.2.2.2.1,r.2.2.2.2.2.2.2.2.2.2.2.2.2.2.2.1,())] ≤ 1466015503701) then some (inl (r.1,r.2.1,r.2.2.1,r.2.2.2.1,r.2.2.2.2.1,r.2.2.2.2.2.1,r.2.2.2.2.2.2.1,wrap .i64 (r.2.2.2.2.2.2.2.1 + ofNat 1),r.2.2.2.2.2.2.2.2.1,r.2.2.2.2.2.2.2.2.2.1,r.2.2.2.2.2.2.2.2.2.2.2.2.2.2.2.2.1,r.2.2.2.2.2.2.2.2.2.2.2.2.2.2.2.2.2.1,r.2.2.2.2.2.2.2.2.2.2.2.2.2.2.2.2.2.2.1 ++ [(r.2.2.2.2.2.2.2.2.2.2.1,r.2.2.2.2.2.2.2.2.2.2.2.1,r.2.2.2.2.2.2.2.2.2.2.2.2.1,r.2.2.2.2.2.2.2.2.2.2.2.2.2.1,r.2.2.2.2.2.2.2.2.2.2.2.2.2.2.2.2.2.2.2.1,r.2.2.2.2.2.2.2.2.2.2.2.2.2.2.1,r.2.2.2.2.2.2.2.2.2.2.2.2.2.2.2.1,())],())) else none else none else none else bif decide (length r.2.2.2.2.2.2.2.2.2.2.2.2.2.2.2.2.2.2.1 + length [(r.2.2.2.2.2.2.2.2.2.2.1,r.2.2.2.2.2.2.2.2.2.2.2.1,r.2.2.2.2.2.2.2.2.2.2.2.2.1,r.2.2.2.2.2.2.2.2.2.2.2.2.2.1,r.2.2.2.2.2.2.2.2.2.2.2.2.2.2.2.2.2.2.2.1,r.2.2.2.2.2.2.2.2.2.2.2.2.2.2.1,r.2.2.2.2.2.2.2.2.2.2.2.2.2.2.2.1,())] ≤ 1466015503701) then some (inl (r.1,r.2.1,r.2.2.1,r.2.2.2.1,r.2.2.2.2.1,r.2.2.2.2.2.1,r.2.2.2.2.2.2.1,wrap .i64 (r.2.2.2.2.2.2.2.1 + ofNat 1),r.2.2.2.2.2.2.2.2.1,r.2.2.2.2.2.2.2.2.2.1,r.2.2.2.2.2.2.2.2.2.2.2.2.2.2.2.2.1,r.2.2.2.2.2.2.2.2.2.2.2.2.2.2.2.2.2.1,r.2.2.2.2.2.2.2.2.2.2.2.2.2.2.2.2.2.2.1 ++ [(r.2.2.2.2.2.2.2.2.2.2.1,r.2.2.2.2.2.2.2.2.2.2.2.1,r.2.2.2.2.2.2.2.2.2.2.2.2.1,r.2.2.2.2.2.2.2.2.2.2.2.2.2.1,r.2.2.2.2.2.2.2.2.2.2.2.2.2.2.2.2.2.2.2.1,r.2.2.2.2.2.2.2.2.2.2.2.2.2.2.1,r.2.2.2.2.2.2.2.2.2.2.2.2.2.2.2.1,())],())) else none else bif decide (length r.2.2.2.2.2.2.2.2.2.2.2.2.2.2.2.2.2.2.1 + length [(r.2.2.2.2.2.2.2.2.2.2.1,r.2.2.2.2.2.2.2.2.2.2.2.1,r.2.2.2.2.2.2.2.2.2.2.2.2.1,r.2.2.2.2.2.2.2.2.2.2.2.2.2.1,r.2.2.2.2.2.2.2.2.2.2.2.2.2.2.2.2.2.2.2.1,r.2.2.2.2.2.2.2.2.2.2.2.2.2.2.1,r.2.2.2.2.2.2.2.2.2.2.2.2.2.2.2.1,())] ≤ 1466015503701) then some (inl (r.1,r.2.1,r.2.2.1,r.2.2.2.1,r.2.2.2.2.1,r.2.2.2.2.2.1,r.2.2.2.2.2.2.1,wrap .i64 (r.2.2.2.2.2.2.2.1 + ofNat 1),r.2.2.2.2.2.2.2.2.1,r.2.2.2.2.2.2.2.2.2.1,r.2.2.2.2.2.2.2.2.2.2.2.2.2.2.2.2.1,r.2.2.2.2.2.2.2.2.2.2.2.2.2.2.2.2.2.1,r.2.2.2.2.2.2.2.2.2.2.2.2.2.2.2.2.2.2.1 ++ [(r.2.2.2.2.2.2.2.2.2.2.1,r.2.2.2.2.2.2.2.2.2.2.2.1,r.2.2.2.2.2.2.2.2.2.2.2.2.1,r.2.2.2.2.2.2.2.2.2.2.2.2.2.1,r.2.2.2.2.2.2.2.2.2.2.2.2.2.2.2.2.2.2.2.1,r.2.2.2.2.2.2.2.2.2.2.2.2.2.2.1,r.2.2.2.2.2.2.2.2.2.2.2.2.2.2.2.1,())],())) else none else none else none else none else none else some (inr (x0,x1,x2,x3,x4,x5,x6,x9,x10,x11,x12,())):=by kernel_rfl
theorem B10_2_eq (x0:List Int) (x1:Bool) (x2 x3 x4:Int) (x5:List R2) (x6:List R3):B10_2 (x0,x1,x2,x3,x4,x5,x6,()) =
 bif decide (x4 < x2) then Option.bind (F25 ()) fun r => bif decide (ofNat 0 ≤ x4) then Option.bind r.1[toNat x4]? fun y => Option.bind (F26 (x4,())) fun r => Option.bind (F27 (x4,())) fun r_1 => bif r.1 == ofNat 1 then bif decide (1 + length [(r.1,ofNat 0,ofNat 0,(lit []),()),(r.1,ofNat 1,ofNat 0,(lit []),()),(r_1.1,r_1.2.1,r_1.2.2.1,r_1.2.2.2.1,()),(r.1,ofNat 2,ofNat 0,(lit [114,99,46,49]),()),(r.1,ofNat 2,ofNat 0,(lit []),())] ≤ 3518437208883) then Option.bind (loop B10_1 (x0,x1,x2,x3,x4,y,r.1,ofNat 0,[(ofNat 0,ofNat 5,ofNat 0,(lit []),())] ++ [(r.1,ofNat 0,ofNat 0,(lit []),()),(r.1,ofNat 1,ofNat 0,(lit []),()),(r_1.1,r_1.2.1,r_1.2.2.1,r_1.2.2.2.1,()),(r.1,ofNat 2,ofNat 0,(lit [114,99,46,49]),()),(r.1,ofNat 2,ofNat 0,(lit []),())],y,x5,x6,[],())) fun r => bif decide (length r.2.2.2.2.2.2.2.2.1 + length [(r.2.2.2.2.2.2.2.1,r.2.2.2.2.2.2.2.2.2.2.1,())] ≤ 3518437208883) then Option.bind (F29 (r.2.2.2.2.1,ofNat 1,())) fun r_2 => Option.bind (F29 (r.2.2.2.2.1,ofNat 2,())) fun r_3 => Option.bind (F29 (r.2.2.2.2.1,ofNat 3,())) fun r_4 => Option.bind (F29 (r.2.2.2.2.1,ofNat 8,())) fun r_5 => Option.bind (F29 (r.2.2.2.2.1,ofNat 9,())) fun r_6 => bif decide (length r.2.2.2.2.2.2.2.2.2.1 + length [(r.2.2.2.2.2.1,r_2.1,true,false,r.2.2.2.2.2.2.1,ofNat 0,ofNat 0,(lit []),ofNat 0,()),(r.2.2.2.2.2.1,r_3.1,true,false,r.2.2.2.2.2.2.1,ofNat 1,ofNat 0,(lit []),ofNat 0,()),(r.2.2.2.2.2.1,r_4.1,true,false,r.2.2.2.2.2.2.1,ofNat 2,ofNat 0,(lit []),ofNat 0,()),(r.2.2.2.2.2.1,r_5.1,false,false,ofNat 0,ofNat 0,ofNat 0,(lit []),wrap .i64 (ofNat 20190101000000 + r.2.2.2.2.1),()),(r.2.2.2.2.2.1,r_6.1,false,true,r.2.2.2.2.2.2.1,ofNat 1,ofNat 0,(lit []),wrap .i64 (ofNat 20200101000000 + r.2.2.2.2.1),())] ≤ 1599289640401) then some (inl (r.1,r.2.1,r.2.2.1,r.2.2.2.1,wrap .i64 (r.2.2.2.2.1 + ofNat 1),r.2.2.2.2.2.2.2.2.1 ++ [(r.2.2.2.2.2.2.2.1,r.2.2.2.2.2.2.2.2.2.2.1,())],r.2.2.2.2.2.2.2.2.2.1 ++ [(r.2.2.2.2.2.1,r_2.1,true,false,r.2.2.2.2.2.2.1,ofNat 0,ofNat 0,(lit []),ofNat 0,()),(r.2.2.2.2.2.1,r_3.1,true,false,r.2.2.2.2.2.2.1,ofNat 1,ofNat 0,(lit []),ofNat 0,()),(r.2.2.2.2.2.1,r_4.1,true,false,r.2.2.2.2.2.2.1,ofNat 2,ofNat 0,(lit []),ofNat 0,()),(r.2.2.2.2.2.1,r_5.1,false,false,ofNat 0,ofNat 0,ofNat 0,(lit []),wrap .i64 (ofNat 20190101000000 + r.2.2.2.2.1),()),(r.2.2.2.2.2.1,r_6.1,false,true,r.2.2.2.2.2.2.1,ofNat 1,ofNat 0,(lit []),wrap .i64 (ofNat 20200101000000 + r.2.2.2.2.1),())],())) else none else none else none else Option.bind (loop B10_1 (x0,x1,x2,x3,x4,y,r.1,ofNat 0,[(r.1,ofNat 0,ofNat 0,(lit []),()),(r.1,ofNat 1,ofNat 0,(lit []),()),(r_1.1,r_1.2.1,r_1.2.2.1,r_1.2.2.2.1,()),(r.1,ofNat 2,ofNat 0,(lit [114,99,46,49]),()),(r.1,ofNat 2,ofNat 0,(lit []),())],y,x5,x6,[],())) fun r => bif decide (length r.2.2.2.2.2.2.2.2.1 + length [(r.2.2.2.2.2.2.2.1,r.2.2.2.2.2.2.2.2.2.2.1,())] ≤ 3518437208883) then Option.bind (F29 (r.2.2.2.2.1,ofNat 1,())) fun r_2 => Option.bind (F29 (r.2.2.2.2.1,ofNat 2,())) fun r_3 => Option.bind (F29 (r.2.2.2.2.1,ofNat 3,())) fun r_4 => Option.bind (F29 (r.2.2.2.2.1,ofNat 8,())) fun r_5 => Option.bind (F29 (r.2.2.2.2.1,ofNat 9,())) fun r_6 => bif decide (length r.2.2.2.2.2.2.2.2.2.1 + length [(r.2.2.2.2.2.1,r_2.1,true,false,r.2.2.2.2.2.2.1,ofNat 0,ofNat 0,(lit []),ofNat 0,()),(r.2.2.2.2.2.1,r_3.1,true,false,r.2.2.2.2.2.2.1,ofNat 1,ofNat 0,(lit []),ofNat 0,()),(r.2.2.2.2.2.1,r_4.1,true,false,r.2.2.2.2.2.2.1,ofNat 2,ofNat 0,(lit []),ofNat 0,()),(r.2.2.2.2.2.1,r_5.1,false,false,ofNat 0,ofNat 0,ofNat 0,(lit []),wrap .i64 (ofNat 20190101000000 + r.2.2.2.2.1),()),(r.2.2.2.2.2.1,r_6.1,false,true,r.2.2.2.2.2.2.1,ofNat 1,ofNat 0,(lit []),wrap .i64 (ofNat 20200101000000 + r.2.2.2.2.1),())] ≤ 1599289640401) then some (inl (r.1,r.2.1,r.2.2.1,r.2.2.2.1,wrap .i64 (r.2.2.2.2.1 + ofNat 1),r.2.2.2.2.2.2.2.2.1 ++ [(r.2.2.2.2.2.2.2.1,r.2.2.2.2.2.2.2.2.2.2.1,())],r.2.2.2.2.2.2.2.2.2.1 ++ [(r.2.2.2.2.2.1,r_2.1,true,false,r.2.2.2.2.2.2.1,ofNat 0,ofNat 0,(lit []),ofNat 0,()),(r.2.2.2.2.2.1,r_3.1,true,false,r.2.2.2.2.2.2.1,ofNat 1,ofNat 0,(lit []),ofNat 0,()),(r.2.2.2.2.2.1,r_4.1,true,false,r.2.2.2.2.2.2.1,ofNat 2,ofNat 0,(lit []),ofNat 0,()),(r.2.2.2.2.2.1,r_5.1,false,false,ofNat 0,ofNat 0,ofNat 0,(lit []),wrap .i64 (ofNat 20190101000000 + r.2.2.2.2.1),()),(r.2.2.2.2.2.1,r_6.1,false,true,r.2.2.2.2.2.2.1,ofNat 1,ofNat 0,(lit []),wrap .i64 (ofNat 20200101000000 + r.2.2.2.2.1),())],())) else none else none else none else some (inr (x5,x6,())):=by kernel_rfl
theorem F10_eq (x0:Int) (x1:List Int) (x2:Bool):F10 (x0,x1,x2,()) =
 Option.bind (F24 (x0,ofNat 7,())) fun r => Option.bind (loop B10_2 (x1,x2,wrap .i64 (ofNat 1 + r.1),ofNat 0,ofNat 0,[],[],())) fun r => some (r.1,r.2.1,()):=by kernel_rfl
theorem F18_eq (x0 x1:Int):F18 (x0,x1,()) =
 bif !decide (x1 = ofNat 0) then bif decide (Int.tmod x0 x1 < ofNat 0) then some (wrap .i64 (Int.tmod x0 x1 + x1),()) else some (Int.tmod x0 x1,()) else none:=by kernel_rfl
theorem B30_0_eq (x0:ByteArray) (x1:Int) (x2:List ByteArray):B30_0 (x0,x1,x2,()) =
 bif decide (x1 < ofNat 7) then bif decide (ofNat 0 ≤ x1) then Option.bind x2[toNat x1]? fun y => bif bl y == bl x0 then some (inr (inl (x1,()))) else some (inl (x0,wrap .i64 (x1 + ofNat 1),x2,())) else none else some (inr (inr ())):=by kernel_rfl
theorem F30_eq (x0:ByteArray):F30 (x0,()) =
 Option.bind (loop B30_0 (x0,ofNat 0,[(lit [97]),(lit [97,47,115,117,98]),(lit [98,47,99]),(lit [98,47,99,47,118,50]),(lit [100]),(lit [101,47,118,51]),(lit [101,47,118,52])],())) fun r => elim (fun p => some (p.1,())) (fun p => some (ofNat 0,())) r:=by kernel_rfl
theorem B11_0_eq (x0:List Int) (x1:Int) (x2:Bool) (x3 x4:Int) (x5:Bool) (x6:List R2) (x7:List R3) (x8:List R7) (x9 x10 x11 x12 x13:ByteArray):B11_0 (x0,x1,x2,x3,x4,x5,x6,x7,x8,x9,x10,x11,x12,x13,()) =
 bif decide (x3 < ofNat (length x8)) then bif x2 then some (inl (x0,x1,true,wrap .i64 (x3 + ofNat 1),x4,x5,x6,x7,x8,x9,x10,x11,x12,x13,())) else bif decide (ofNat 0 ≤ x3) then Option.bind x8[toNat x3]? fun y => some (inl (x0,x1,bl y.1 == bl x9,wrap .i64 (x3 + ofNat 1),x4,x5,x6,x7,x8,x9,x10,x11,x12,x13,())) else none else some (inr (x0,x1,x2,x4,x5,x6,x7,x8,x9,x10,x11,x12,x13,())):=by kernel_rfl
noncomputable def kt11:List Int × Int × Bool × Int × Bool × List R2 × List R3 × List R7 × ByteArray × ByteArray × ByteArray × ByteArray × ByteArray × Unit → Option ((List Int × Int × List R2 × List R3 × List R7 × Unit) ⊕ (List R7 × Unit)):=
 fun r => bif !r.2.2.1 then bif decide (length r.2.2.2.2.2.2.2.1 + length [(r.2.2.2.2.2.2.2.2.1,r.2.2.2.2.2.2.2.2.2.1,r.2.2.2.2.2.2.2.2.2.2.1,r.2.2.2.2.2.2.2.2.2.2.2.1,r.2.2.2.2.2.2.2.2.2.2.2.2.1,())] ≤ 1759218604441) then some (inl (r.1,wrap .i64 (r.2.1 + ofNat 1),r.2.2.2.2.2.1,r.2.2.2.2.2.2.1,r.2.2.2.2.2.2.2.1 ++ [(r.2.2.2.2.2.2.2.2.1,r.2.2.2.2.2.2.2.2.2.1,r.2.2.2.2.2.2.2.2.2.2.1,r.2.2.2.2.2.2.2.2.2.2.2.1,r.2.2.2.2.2.2.2.2.2.2.2.2.1,())],())) else none else some (inl (r.1,wrap .i64 (r.2.1 + ofNat 1),r.2.2.2.2.2.1,r.2.2.2.2.2.2.1,r.2.2.2.2.2.2.2.1,()))
theorem B11_1_eq (x0:List Int) (x1:Int) (x2:List R2) (x3:List R3) (x4:List R7):B11_1 (x0,x1,x2,x3,x4,()) =
 bif decide (x1 < ofNat (length x0)) then bif decide (x1 < ofNat 7) then bif decide (ofNat 0 ≤ x1) then Option.bind x0[toNat x1]? fun y => Option.bind (F18 (y,ofNat 1099511627776,())) fun r => bif !decide (ofNat (length x2) = ofNat 0) then bif decide (ofNat 0 ≤ Int.tmod r.1 (ofNat (length x2))) then Option.bind x2[toNat (Int.tmod r.1 (ofNat (length x2)))]? fun y => bif !decide (ofNat (length y.2.1) = ofNat 0) then bif decide (ofNat 0 ≤ Int.tmod (wrap .i64 (Int.tdiv r.1 (ofNat 7))) (ofNat (length y.2.1))) then Option.bind y.2.1[toNat (Int.tmod (wrap .i64 (Int.tdiv r.1 (ofNat 7))) (ofNat (length y.2.1)))]? fun y_1 => Option.bind (F30 (y.1,())) fun r_1 => Option.bind (F18 (r_1.1,ofNat 7,())) fun r_2 => bif decide (ofNat 0 ≤ r_2.1) then Option.bind [(lit [97]),(lit [97,47,115,117,98]),(lit [98,47,99]),(lit [98,47,99]),(lit [100]),(lit [101]),(lit [101])][toNat r_2.1]? fun y => bif decide (ofNat 0 ≤ Int.tmod (wrap .i64 (Int.tdiv (wrap .i64 (Int.tdiv r.1 (ofNat 7))) (ofNat 7))) (ofNat 5)) then Option.bind [(lit []),(lit []),(lit []),(lit [47,120]),(lit [47,120,47,121])][toNat (Int.tmod (wrap .i64 (Int.tdiv (wrap .i64 (Int.tdiv r.1 (ofNat 7))) (ofNat 7))) (ofNat 5))]? fun y_2 => bif fitsS y y_2 then Option.bind (F20 (y_1.1,y_1.2.1,y_1.2.2.1,y_1.2.2.2.1,())) fun r_3 => bif Int.tmod (wrap .i64 (Int.tdiv (wrap .i64 (Int.tdiv (wrap .i64 (Int.tdiv r.1 (ofNat 7))) (ofNat 7))) (ofNat 5))) (ofNat 4) == ofNat 0 then bif decide (ofNat (length x3) > ofNat 0) then bif !decide (ofNat (length x3) = ofNat 0) then bif decide (ofNat 0 ≤ Int.tmod (wrap .i64 (Int.tdiv (wrap .i64 (Int.tdiv (wrap .i64 (Int.tdiv (wrap .i64 (Int.tdiv r.1 (ofNat 7))) (ofNat 7))) (ofNat 5))) (ofNat 4))) (ofNat (length x3))) then Option.bind x3[toNat (Int.tmod (wrap .i64 (Int.tdiv (wrap .i64 (Int.tdiv (wrap .i64 (Int.tdiv (wrap .i64 (Int.tdiv r.1 (ofNat 7))) (ofNat 7))) (ofNat 5))) (ofNat 4))) (ofNat (length x3)))]? fun y_3 => bif decide (ofNat 0 ≤ bif decide (wrap .i64 (ofNat 12 + Int.tmod (wrap .i64 (Int.tdiv (wrap .i64 (Int.tdiv (wrap .i64 (Int.tdiv (wrap .i64 (Int.tdiv r.1 (ofNat 7))) (ofNat 7))) (ofNat 5))) (ofNat 4))) (ofNat 9)) < ofNat (size y_3.2.1)) then wrap .i64 (ofNat 12 + Int.tmod (wrap .i64 (Int.tdiv (wrap .i64 (Int.tdiv (wrap .i64 (Int.tdiv (wrap .i64 (Int.tdiv r.1 (ofNat 7))) (ofNat 7))) (ofNat 5))) (ofNat 4))) (ofNat 9)) else ofNat (size y_3.2.1)) && decide ((bif decide (wrap .i64 (ofNat 12 + Int.tmod (wrap .i64 (Int.tdiv (wrap .i64 (Int.tdiv (wrap .i64 (Int.tdiv (wrap .i64 (Int.tdiv r.1 (ofNat 7))) (ofNat 7))) (ofNat 5))) (ofNat 4))) (ofNat 9)) < ofNat (size y_3.2.1)) then wrap .i64 (ofNat 12 + Int.tmod (wrap .i64 (Int.tdiv (wrap .i64 (Int.tdiv (wrap .i64 (Int.tdiv (wrap .i64 (Int.tdiv r.1 (ofNat 7))) (ofNat 7))) (ofNat 5))) (ofNat 4))) (ofNat 9)) else ofNat (size y_3.2.1)) ≤ ofNat (size y_3.2.1)) then bif decide (Int.tmod (wrap .i64 (Int.tdiv (wrap .i64 (Int.tdiv (wrap .i64 (Int.tdiv (wrap .i64 (Int.tdiv r.1 (ofNat 7))) (ofNat 7))) (ofNat 5))) (ofNat 4))) (ofNat 3) > ofNat 0) then bif Int.tmod (wrap .i64 (Int.tdiv (wrap .i64 (Int.tdiv (wrap .i64 (Int.tdiv (wrap .i64 (Int.tdiv r.1 (ofNat 7))) (ofNat 7))) (ofNat 5))) (ofNat 16))) (ofNat 4) == ofNat 0 then bif decide (ofNat 0 ≤ Int.tmod (wrap .i64 (Int.tdiv (wrap .i64 (Int.tdiv (wrap .i64 (Int.tdiv (wrap .i64 (Int.tdiv (wrap .i64 (Int.tdiv r.1 (ofNat 7))) (ofNat 7))) (ofNat 5))) (ofNat 16))) (ofNat 4))) (ofNat 8)) then Option.bind [(lit [42]),(lit [62,61,118,49,46,48,46,48]),(lit [60,118,49,46,50,46,48]),(lit [94,118,49,46,48,46,48]),(lit [126,118,49,46,49,46,48]),(lit [118,49,46,120]),(lit [120]),(lit [118,51,46,120,32,124,124,32,118,50,46,120])][toNat (Int.tmod (wrap .i64 (Int.tdiv (wrap .i64 (Int.tdiv (wrap .i64 (Int.tdiv (wrap .i64 (Int.tdiv (wrap .i64 (Int.tdiv r.1 (ofNat 7))) (ofNat 7))) (ofNat 5))) (ofNat 16))) (ofNat 4))) (ofNat 8))]? fun y_4 => bif Int.tmod (wrap .i64 (Int.tdiv (wrap .i64 (Int.tdiv (wrap .i64 (Int.tdiv (wrap .i64 (Int.tdiv (wrap .i64 (Int.tdiv r.1 (ofNat 7))) (ofNat 7))) (ofNat 5))) (ofNat 16))) (ofNat 32))) (ofNat 5) == ofNat 0 then bif !decide (ofNat (length x2) = ofNat 0) then bif decide (ofNat 0 ≤ Int.tmod (wrap .i64 (Int.tdiv (wrap .i64 (Int.tdiv (wrap .i64 (Int.tdiv (wrap .i64 (Int.tdiv (wrap .i64 (Int.tdiv (wrap .i64 (Int.tdiv r.1 (ofNat 7))) (ofNat 7))) (ofNat 5))) (ofNat 16))) (ofNat 32))) (ofNat 5))) (ofNat (length x2))) then Option.bind x2[toNat (Int.tmod (wrap .i64 (Int.tdiv (wrap .i64 (Int.tdiv (wrap .i64 (Int.tdiv (wrap .i64 (Int.tdiv (wrap .i64 (Int.tdiv (wrap .i64 (Int.tdiv r.1 (ofNat 7))) (ofNat 7))) (ofNat 5))) (ofNat 16))) (ofNat 32))) (ofNat 5))) (ofNat (length x2)))]? fun y_5 => bif Int.tmod (wrap .i64 (Int.tdiv (wrap .i64 (Int.tdiv (wrap .i64 (Int.tdiv (wrap .i64 (Int.tdiv (wrap .i64 (Int.tdiv r.1 (ofNat 7))) (ofNat 7))) (ofNat 5))) (ofNat 16))) (ofNat 32))) (ofNat 31) == ofNat 7 then Option.bind (loop B11_0 (x0,x1,false,ofNat 0,x1,decide (x1 < ofNat 7),x2,x3,x4,(lit [122,122]),(lit []),ByteArray.extract y_3.2.1 0 (toNat (bif decide (wrap .i64 (ofNat 12 + Int.tmod (wrap .i64 (Int.tdiv (wrap .i64 (Int.tdiv (wrap .i64 (Int.tdiv (wrap .i64 (Int.tdiv r.1 (ofNat 7))) (ofNat 7))) (ofNat 5))) (ofNat 4))) (ofNat 9)) < ofNat (size y_3.2.1)) then wrap .i64 (ofNat 12 + Int.tmod (wrap .i64 (Int.tdiv (wrap .i64 (Int.tdiv (wrap .i64 (Int.tdiv (wrap .i64 (Int.tdiv r.1 (ofNat 7))) (ofNat 7))) (ofNat 5))) (ofNat 4))) (ofNat 9)) else ofNat (size y_3.2.1))),y_4,y_5.1,())) kt11 else Option.bind (loop B11_0 (x0,x1,false,ofNat 0,x1,decide (x1 < ofNat 7),x2,x3,x4,y,(lit []),ByteArray.extract y_3.2.1 0 (toNat (bif decide (wrap .i64 (ofNat 12 + Int.tmod (wrap .i64 (Int.tdiv (wrap .i64 (Int.tdiv (wrap .i64 (Int.tdiv (wrap .i64 (Int.tdiv r.1 (ofNat 7))) (ofNat 7))) (ofNat 5))) (ofNat 4))) (ofNat 9)) < ofNat (size y_3.2.1)) then wrap .i64 (ofNat 12 + Int.tmod (wrap .i64 (Int.tdiv (wrap .i64 (Int.tdiv (wrap .i64 (Int.tdiv (wrap .i64 (Int.tdiv r.1 (ofNat 7))) (ofNat 7))) (ofNat 5))) (ofNat 4))) (ofNat 9)) else ofNat (size y_3.2.1))),y_4,y_5.1,())) kt11 else none else none else bif Int.tmod (wrap .i64 (Int.tdiv (wrap .i64 (Int.tdiv (wrap .i64 (Int.tdiv (wrap .i64 (Int.tdiv (wrap .i64 (Int.tdiv r.1 (ofNat 7))) (ofNat 7))) (ofNat 5))) (ofNat 16))) (ofNat 32))) (ofNat 31) == ofNat 7 then Option.bind (loop B11_0 (x0,x1,false,ofNat 0,x1,decide (x1 < ofNat 7),x2,x3,x4,(lit [122,122]),(lit []),ByteArray.extract y_3.2.1 0 (toNat (bif decide (wrap .i64 (ofNat 12 + Int.tmod (wrap .i64 (Int.tdiv (wrap .i64 (Int.tdiv (wrap .i64 (Int.tdiv (wrap .i64 (Int.tdiv r.1 (ofNat 7))) (ofNat 7))) (ofNat 5))) (ofNat 4))) (ofNat 9)) < ofNat (size y_3.2.1)) then wrap .i64 (ofNat 12 + Int.tmod (wrap .i64 (Int.tdiv (wrap .i64 (Int.tdiv (wrap .i64 (Int.tdiv (wrap .i64 (Int.tdiv r.1 (ofNat 7))) (ofNat 7))) (ofNat 5))) (ofNat 4))) (ofNat 9)) else ofNat (size y_3.2.1))),y_4,(lit []),())) kt11 else Option.bind (loop B11_0 (x0,x1,false,ofNat 0,x1,decide (x1 < ofNat 7),x2,x3,x4,y,(lit []),ByteArray.extract y_3.2.1 0 (toNat (bif decide (wrap .i64 (ofNat 12 + Int.tmod (wrap .i64 (Int.tdiv (wrap .i64 (Int.tdiv (wrap .i64 (Int.tdiv (wrap .i64 (Int.tdiv r.1 (ofNat 7))) (ofNat 7))) (ofNat 5))) (ofNat 4))) (ofNat 9)) < ofNat (size y_3.2.1)) then wrap .i64 (ofNat 12 + Int.tmod (wrap .i64 (Int.tdiv (wrap .i64 (Int.tdiv (wrap .i64 (Int.tdiv (wrap .i64 (Int.tdiv r.1 (ofNat 7))) (ofNat 7))) (ofNat 5))) (ofNat 4))) (ofNat 9)) else ofNat (size y_3.2.1))),y_4,(lit []),())) kt11 else none else bif Int.tmod (wrap .i64 (Int.tdiv (wrap .i64 (Int.tdiv (wrap .i64 (Int.tdiv (wrap .i64 (Int.tdiv (wrap .i64 (Int.tdiv r.1 (ofNat 7))) (ofNat 7))) (ofNat 5))) (ofNat 16))) (ofNat 32))) (ofNat 5) == ofNat 0 then bif !decide (ofNat (length x2) = ofNat 0) then bif decide (ofNat 0 ≤ Int.tmod (wrap .i64 (Int.tdiv (wrap .i64 (Int.tdiv (wrap .i64 (Int.tdiv (wrap .i64 (Int.tdiv (wrap .i64 (Int.tdiv (wrap .i64 (Int.tdiv r.1 (ofNat 7))) (ofNat 7))) (ofNat 5))) (ofNat 16))) (ofNat 32))) (ofNat 5))) (ofNat (length x2))) then Option.bind x2[toNat (Int.tmod (wrap .i64 (Int.tdiv (wrap .i64 (Int.tdiv (wrap .i64 (Int.tdiv (wrap .i64 (Int.tdiv (wrap .i64 (Int.tdiv (wrap .i64 (Int.tdiv r.1 (ofNat 7))) (ofNat 7))) (ofNat 5))) (ofNat 16))) (ofNat 32))) (ofNat 5))) (ofNat (length x2)))]? fun y_4 => bif Int.tmod (wrap .i64 (Int.tdiv (wrap .i64 (Int.tdiv (wrap .i64 (Int.tdiv (wrap .i64 (Int.tdiv (wrap .i64 (Int.tdiv r.1 (ofNat 7))) (ofNat 7))) (ofNat 5))) (ofNat 16))) (ofNat 32))) (ofNat 31) == ofNat 7 then Option.bind (loop B11_0 (x0,x1,false,ofNat 0,x1,decide (x1 < ofNat 7),x2,x3,x4,(lit [122,122]),(lit []),ByteArray.extract y_3.2.1 0 (toNat (bif decide (wrap .i64 (ofNat 12 + Int.tmod (wrap .i64 (Int.tdiv (wrap .i64 (Int.tdiv (wrap .i64 (Int.tdiv (wrap .i64 (Int.tdiv r.1 (ofNat 7))) (ofNat 7))) (ofNat 5))) (ofNat 4))) (ofNat 9)) < ofNat (size y_3.2.1)) then wrap .i64 (ofNat 12 + Int.tmod (wrap .i64 (Int.tdiv (wrap .i64 (Int.tdiv (wrap .i64 (Int.tdiv (wrap .i64 (Int.tdiv r.1 (ofNat 7))) (ofNat 7))) (ofNat 5))) (ofNat 4))) (ofNat 9)) else ofNat (size y_3.2.1))),(lit []),y_4.1,())) kt11 else Option.bind (loop B11_0 (x0,x1,false,ofNat 0,x1,decide (x1 < ofNat 7),x2,x3,x4,y,(lit []),ByteArray.extract y_3.2.1 0 (toNat (bif decide (wrap .i64 (ofNat 12 + Int.tmod (wrap .i64 (Int.tdiv (wrap .i64 (Int.tdiv (wrap .i64 (Int.tdiv (wrap .i64 (Int.tdiv r.1 (ofNat 7))) (ofNat 7))) (ofNat 5))) (ofNat 4))) (ofNat 9)) < ofNat (size y_3.2.1)) then wrap .i64 (ofNat 12 + Int.tmod (wrap .i64 (Int.tdiv (wrap .i64 (Int.tdiv (wrap .i64 (Int.tdiv (wrap .i64 (Int.tdiv r.1 (ofNat 7))) (ofNat 7))) (ofNat 5))) (ofNat 4))) (ofNat 9)) else ofNat (size y_3.2.1))),(lit []),y_4.1,())) kt11 else none else none else bif Int.tmod (wrap .i64 (Int.tdiv (wrap .i64 (Int.tdiv (wrap .i64 (Int.tdiv (wrap .i64 (Int.tdiv (wrap .i64 (Int.tdiv r.1 (ofNat 7))) (ofNat 7))) (ofNat 5))) (ofNat 16))) (ofNat 32))) (ofNat 31) == ofNat 7 then Option.bind (loop B11_0 (x0,x1,false,ofNat 0,x1,decide (x1 < ofNat 7),x2,x3,x4,(lit [122,122]),(lit []),ByteArray.extract y_3.2.1 0 (toNat (bif decide (wrap .i64 (ofNat 12 + Int.tmod (wrap .i64 (Int.tdiv (wrap .i64 (Int.tdiv (wrap .i64 (Int.tdiv (wrap .i64 (Int.tdiv r.1 (ofNat 7))) (ofNat 7))) (ofNat 5))) (ofNat 4))) (ofNat 9)) < ofNat (size y_3.2.1)) then wrap .i64 (ofNat 12 + Int.tmod (wrap .i64 (Int.tdiv (wrap .i64 (Int.tdiv (wrap .i64 (Int.tdiv (wrap .i64 (Int.tdiv r.1 (ofNat 7))) (ofNat 7))) (ofNat 5))) (ofNat 4))) (ofNat 9)) else ofNat (size y_3.2.1))),(lit []),(lit []),())) kt11 else Option.bind (loop B11_0 (x0,x1,false,ofNat 0,x1,decide (x1 < ofNat 7),x2,x3,x4,y,(lit []),ByteArray.extract y_3.2.1 0 (toNat (bif decide (wrap .i64 (ofNat 12 + Int.tmod (wrap .i64 (Int.tdiv (wrap .i64 (Int.tdiv (wrap .i64 (Int.tdiv (wrap .i64 (Int.tdiv r.1 (ofNat 7))) (ofNat 7))) (ofNat 5))) (ofNat 4))) (ofNat 9)) < ofNat (size y_3.2.1)) then wrap .i64 (ofNat 12 + Int.tmod (wrap .i64 (Int.tdiv (wrap .i64 (Int.tdiv (wrap .i64 (Int.tdiv (wrap .i64 (Int.tdiv r.1 (ofNat 7))) (ofNat 7))) (ofNat 5))) (ofNat 4))) (ofNat 9)) else ofNat (size y_3.2.1))),(lit []),(lit []),())) kt11 else bif Int.tmod (wrap .i64 (Int.tdiv (wrap .i64 (Int.tdiv (wrap .i64 (Int.tdiv (wrap .i64 (Int.tdiv r.1 (ofNat 7))) (ofNat 7))) (ofNat 5))) (ofNat 16))) (ofNat 4) == ofNat 0 then bif decide (ofNat 0 ≤ Int.tmod (wrap .i64 (Int.tdiv (wrap .i64 (Int.tdiv (wrap .i64 (Int.tdiv (wrap .i64 (Int.tdiv (wrap .i64 (Int.tdiv r.1 (ofNat 7))) (ofNat 7))) (ofNat 5))) (ofNat 16))) (ofNat 4))) (ofNat 8)) then Option.bind [(lit [42]),(lit [62,61,118,49,46,48,46,48]),(lit [60,118,49,46,50,46,48]),(lit [94,118,49,46,48,46,48]),(lit [126,118,49,46,49,46,48]),(lit [118,49,46,120]),(lit [120]),(lit [118,51,46,120,32,124,124,32,118,50,46,120])][toNat (Int.tmod (wrap .i64 (Int.tdiv (wrap .i64 (Int.tdiv (wrap .i64 (Int.tdiv (wrap .i64 (Int.tdiv (wrap .i64 (Int.tdiv r.1 (ofNat 7))) (ofNat 7))) (ofNat 5))) (ofNat 16))) (ofNat 4))) (ofNat 8))]? fun y_4 => bif Int.tmod (wrap .i64 (Int.tdiv (wrap .i64 (Int.tdiv (wrap .i64 (Int.tdiv (wrap .i64 (Int.tdiv (wrap .i64 (Int.tdiv r.1 (ofNat 7))) (ofNat 7))) (ofNat 5))) (ofNat 16))) (ofNat 32))) (ofNat 5) == ofNat 0 then bif !decide (ofNat (length x2) = ofNat 0) then bif decide (ofNat 0 ≤ Int.tmod (wrap .i64 (Int.tdiv (wrap .i64 (Int.tdiv (wrap .i64 (Int.tdiv (wrap .i64 (Int.tdiv (wrap .i64 (Int.tdiv (wrap .i64 (Int.tdiv r.1 (ofNat 7))) (ofNat 7))) (ofNat 5))) (ofNat 16))) (ofNat 32))) (ofNat 5))) (ofNat (length x2))) then Option.bind x2[toNat (Int.tmod (wrap .i64 (Int.tdiv (wrap .i64 (Int.tdiv (wrap .i64 (Int.tdiv (wrap .i64 (Int.tdiv (wrap .i64 (Int.tdiv (wrap .i64 (Int.tdiv r.1 (ofNat 7))) (ofNat 7))) (ofNat 5))) (ofNat 16))) (ofNat 32))) (ofNat 5))) (ofNat (length x2)))]? fun y_5 => bif Int.tmod (wrap .i64 (Int.tdiv (wrap .i64 (Int.tdiv (wrap .i64 (Int.tdiv (wrap .i64 (Int.tdiv (wrap .i64 (Int.tdiv r.1 (ofNat 7))) (ofNat 7))) (ofNat 5))) (ofNat 16))) (ofNat 32))) (ofNat 31) == ofNat 7 then Option.bind (loop B11_0 (x0,x1,false,ofNat 0,x1,decide (x1 < ofNat 7),x2,x3,x4,(lit [122,122]),r_3.1,ByteArray.extract y_3.2.1 0 (toNat (bif decide (wrap .i64 (ofNat 12 + Int.tmod (wrap .i64 (Int.tdiv (wrap .i64 (Int.tdiv (wrap .i64 (Int.tdiv (wrap .i64 (Int.tdiv r.1 (ofNat 7))) (ofNat 7))) (ofNat 5))) (ofNat 4))) (ofNat 9)) < ofNat (size y_3.2.1)) then wrap .i64 (ofNat 12 + Int.tmod (wrap .i64 (Int.tdiv (wrap .i64 (Int.tdiv (wrap .i64 (Int.tdiv (wrap .i64 (Int.tdiv r.1 (ofNat 7))) (ofNat 7))) (ofNat 5))) (ofNat 4))) (ofNat 9)) else ofNat (size y_3.2.1))),y_4,y_5.1,())) kt11 else Option.bind (loop B11_0 (x0,x1,false,ofNat 0,x1,decide (x1 < ofNat 7),x2,x3,x4,y ++ y_2,r_3.1,ByteArray.extract y_3.2.1 0 (toNat (bif decide (wrap .i64 (ofNat 12 + Int.tmod (wrap .i64 (Int.tdiv (wrap .i64 (Int.tdiv (wrap .i64 (Int.tdiv (wrap .i64 (Int.tdiv r.1 (ofNat 7))) (ofNat 7))) (ofNat 5))) (ofNat 4))) (ofNat 9)) < ofNat (size y_3.2.1)) then wrap .i64 (ofNat 12 + Int.tmod (wrap .i64 (Int.tdiv (wrap .i64 (Int.tdiv (wrap .i64 (Int.tdiv (wrap .i64 (Int.tdiv r.1 (ofNat 7))) (ofNat 7))) (ofNat 5))) (ofNat 4))) (ofNat 9)) else ofNat (size y_3.2.1))),y_4,y_5.1,())) kt11 else none else none else bif Int.tmod (wrap .i64 (Int.tdiv (wrap .i64 (Int.tdiv (wrap .i64 (Int.tdiv (wrap .i64 (Int.tdiv (wrap .i64 (Int.tdiv r.1 (ofNat 7))) (ofNat 7))) (ofNat 5))) (ofNat 16))) (ofNat 32))) (ofNat 31) == ofNat 7 then Option.bind (loop B11_0 (x0,x1,false,ofNat 0,x1,decide (x1 < ofNat 7),x2,x3,x4,(lit [122,122]),r_3.1,ByteArray.extract y_3.2.1 0 (toNat (bif decide (wrap .i64 (ofNat 12 + Int.tmod (wrap .i64 (Int.tdiv (wrap .i64 (Int.tdiv (wrap .i64 (Int.tdiv (wrap .i64 (Int.tdiv r.1 (ofNat 7))) (ofNat 7))) (ofNat 5))) (ofNat 4))) (ofNat 9)) < ofNat (size y_3.2.1)) then wrap .i64 (ofNat 12 + Int.tmod (wrap .i64 (Int.tdiv (wrap .i64 (Int.tdiv (wrap .i64 (Int.tdiv (wrap .i64 (Int.tdiv r.1 (ofNat 7))) (ofNat 7))) (ofNat 5))) (ofNat 4))) (ofNat 9)) else ofNat (size y_3.2.1))),y_4,(lit []),())) kt11 else Option.bind (loop B11_0 (x0,x1,false,ofNat 0,x1,decide (x1 < ofNat 7),x2,x3,x4,y ++ y_2,r_3.1,ByteArray.extract y_3.2.1 0 (toNat (bif decide (wrap .i64 (ofNat 12 + Int.tmod (wrap .i64 (Int.tdiv (wrap .i64 (Int.tdiv (wrap .i64 (Int.tdiv (wrap .i64 (Int.tdiv r.1 (ofNat 7))) (ofNat 7))) (ofNat 5))) (ofNat 4))) (ofNat 9)) < ofNat (size y_3.2.1)) then wrap .i64 (ofNat 12 + Int.tmod (wrap .i64 (Int.tdiv (wrap .i64 (Int.tdiv (wrap .i64 (Int.tdiv (wrap .i64 (Int.tdiv r.1 (ofNat 7))) (ofNat 7))) (ofNat 5))) (ofNat 4))) (ofNat 9)) else ofNat (size y_3.2.1))),y_4,(lit []),())) kt11 else none else bif Int.tmod (wrap .i64 (Int.tdiv (wrap .i64 (Int.tdiv (wrap .i64 (Int.tdiv (wrap .i64 (Int.tdiv (wrap .i64 (Int.tdiv r.1 (ofNat 7))) (ofNat 7))) (ofNat 5))) (ofNat 16))) (ofNat 32))) (ofNat 5) == ofNat 0 then bif !decide (ofNat (length x2) = ofNat 0) then bif decide (ofNat 0 ≤ Int.tmod (wrap .i64 (Int.tdiv (wrap .i64 (Int.tdiv (wrap .i64 (Int.tdiv (wrap .i64 (Int.tdiv (wrap .i64 (Int.tdiv (wrap .i64 (Int.tdiv r.1 (ofNat 7))) (ofNat 7))) (ofNat 5))) (ofNat 16))) (ofNat 32))) (ofNat 5))) (ofNat (length x2))) then Option.bind x2[toNat (Int.tmod (wrap .i64 (Int.tdiv (wrap .i64 (Int.tdiv (wrap .i64 (Int.tdiv (wrap .i64 (Int.tdiv (wrap .i64 (Int.tdiv (wrap .i64 (Int.tdiv r.1 (ofNat 7))) (ofNat 7))) (ofNat 5))) (ofNat 16))) (ofNat 32))) (ofNat 5))) (ofNat (length x2)))]? fun y_4 => bif Int.tmod (wrap .i64 (Int.tdiv (wrap .i64 (Int.tdiv (wrap .i64 (Int.tdiv (wrap .i64 (Int.tdiv (wrap .i64 (Int.tdiv r.1 (ofNat 7))) (ofNat 7))) (ofNat 5))) (ofNat 16))) (ofNat 32))) (ofNat 31) == ofNat 7 then Option.bind (loop B11_0 (x0,x1,false,ofNat 0,x1,decide (x1 < ofNat 7),x2,x3,x4,(lit [122,122]),r_3.1,ByteArray.extract y_3.2.1 0 (toNat (bif decide (wrap .i64 (ofNat 12 + Int.tmod (wrap .i64 (Int.tdiv (wrap .i64 (Int.tdiv (wrap .i64 (Int.tdiv (wrap .i64 (Int.tdiv r.1 (ofNat 7))) (ofNat 7))) (ofNat 5))) (ofNat 4))) (ofNat 9)) < ofNat (size y_3.2.1)) then wrap .i64 (ofNat 12 + Int.tmod (wrap .i64 (Int.tdiv (wrap .i64 (Int.tdiv (wrap .i64 (Int.tdiv (wrap .i64 (Int.tdiv r.1 (ofNat 7))) (ofNat 7))) (ofNat 5))) (ofNat 4))) (ofNat 9)) else ofNat (size y_3.2.1))),(lit []),y_4.1,())) kt11 else Option.bind (loop B11_0 (x0,x1,false,ofNat 0,x1,decide (x1 < ofNat 7),x2,x3,x4,y ++ y_2,r_3.1,ByteArray.extract y_3.2.1 0 (toNat (bif decide (wrap .i64 (ofNat 12 + Int.tmod (wrap .i64 (Int.tdiv (wrap .i64 (Int.tdiv (wrap .i64 (Int.tdiv (wrap .i64 (Int.tdiv r.1 (ofNat 7))) (ofNat 7))) (ofNat 5))) (ofNat 4))) (ofNat 9)) < ofNat (size y_3.2.1)) then wrap .i64 (ofNat 12 + Int.tmod (wrap .i64 (Int.tdiv (wrap .i64 (Int.tdiv (wrap .i64 (Int.tdiv (wrap .i64 (Int.tdiv r.1 (ofNat 7))) (ofNat 7))) (ofNat 5))) (ofNat 4))) (ofNat 9)) else ofNat (size y_3.2.1))),(lit []),y_4.1,())) kt11 else none else none else bif Int.tmod (wrap .i64 (Int.tdiv (wrap .i64 (Int.tdiv (wrap .i64 (Int.tdiv (wrap .i64 (Int.tdiv (wrap .i64 (Int.tdiv r.1 (ofNat 7))) (ofNat 7))) (ofNat 5))) (ofNat 16))) (ofNat 32))) (ofNat 31) == ofNat 7 then Option.bind (loop B11_0 (x0,x1,false,ofNat 0,x1,decide (x1 < ofNat 7),x2,x3,x4,(lit [122,122]),r_3.1,ByteArray.extract y_3.2.1 0 (toNat (bif decide (wrap .i64 (ofNat 12 + Int.tmod (wrap .i64 (Int.tdiv (wrap .i64 (Int.tdiv (wrap .i64 (Int.tdiv (wrap .i64 (Int.tdiv r.1 (ofNat 7))) (ofNat 7))) (ofNat 5))) (ofNat 4))) (ofNat 9)) < ofNat (size y_3.2.1)) then wrap .i64 (ofNat 12 + Int.tmod (wrap .i64 (Int.tdiv (wrap .i64 (Int.tdiv (wrap .i64 (Int.tdiv (wrap .i64 (Int.tdiv r.1 (ofNat 7))) (ofNat 7))) (ofNat 5))) (ofNat 4))) (ofNat 9)) else ofNat (size y_3.2.1))),(lit []),(lit []),())) kt11 else Option.bind (loop B11_0 (x0,x1,false,ofNat 0,x1,decide (x1 < ofNat 7),x2,x3,x4,y ++ y_2,r_3.1,ByteArray.extract y_3.2.1 0 (toNat (bif decide (wrap .i64 (ofNat 12 + Int.tmod (wrap .i64 (Int.tdiv (wrap .i64 (Int.tdiv (wrap .i64 (Int.tdiv (wrap .i64 (Int.tdiv r.1 (ofNat 7))) (ofNat 7))) (ofNat 5))) (ofNat 4))) (ofNat 9)) < ofNat (size y_3.2.1)) then wrap .i64 (ofNat 12 + Int.tmod (wrap .i64 (Int.tdiv (wrap .i64 (Int.tdiv (wrap .i64 (Int.tdiv (wrap .i64 (Int.tdiv r.1 (ofNat 7))) (ofNat 7))) (ofNat 5))) (ofNat 4))) (ofNat 9)) else ofNat (size y_3.2.1))),(lit []),(lit []),())) kt11 else none else none else none else bif Int.tmod (wrap .i64 (Int.tdiv (wrap .i64 (Int.tdiv (wrap .i64 (Int.tdiv (wrap .i64 (Int.tdiv r.1 (ofNat 7))) (ofNat 7))) (ofNat 5))) (ofNat 16))) (ofNat 4) == ofNat 0 then bif decide (ofNat 0 ≤ Int.tmod (wrap .i64 (Int.tdiv (wrap .i64 (Int.tdiv (wrap .i64 (Int.tdiv (wrap .i64 (Int.tdiv (wrap .i64 (Int.tdiv r.1 (ofNat 7))) (ofNat 7))) (ofNat 5))) (ofNat 16))) (ofNat 4))) (ofNat 8)) then Option.bind [(lit [42]),(lit [62,61,118,49,46,48,46,48]),(lit [60,118,49,46,50,46,48]),(lit [94,118,49,46,48,46,48]),(lit [126,118,49,46,49,46,48]),(lit [118,49,46,120]),(lit [120]),(lit [118,51,46,120,32,124,124,32,118,50,46,120])][toNat (Int.tmod (wrap .i64 (Int.tdiv (wrap .i64 (Int.tdiv (wrap .i64 (Int.tdiv (wrap .i64 (Int.tdiv (wrap .i64 (Int.tdiv r.1 (ofNat 7))) (ofNat 7))) (ofNat 5))) (ofNat 16))) (ofNat 4))) (ofNat 8))]? fun y_3 => bif Int.tmod (wrap .i64 (Int.tdiv (wrap .i64 (Int.tdiv (wrap .i64 (Int.tdiv (wrap .i64 (Int.tdiv (wrap .i64 (Int.tdiv r.1 (ofNat 7))) (ofNat 7))) (ofNat 5))) (ofNat 16))) (ofNat 32))) (ofNat 5) == ofNat 0 then bif !decide (ofNat (length x2) = ofNat 0) then bif decide (ofNat 0 ≤ Int.tmod (wrap .i64 (Int.tdiv (wrap .i64 (Int.tdiv (wrap .i64 (Int.tdiv (wrap .i64 (Int.tdiv (wrap .i64 (Int.tdiv (wrap .i64 (Int.tdiv r.1 (ofNat 7))) (ofNat 7))) (ofNat 5))) (ofNat 16))) (ofNat 32))) (ofNat 5))) (ofNat (length x2))) then Option.bind x2[toNat (Int.tmod (wrap .i64 (Int.tdiv (wrap .i64 (Int.tdiv (wrap .i64 (Int.tdiv (wrap .i64 (Int.tdiv (wrap .i64 (Int.tdiv (wrap .i64 (Int.tdiv r.1 (ofNat 7))) (ofNat 7))) (ofNat 5))) (ofNat 16))) (ofNat 32))) (ofNat 5))) (ofNat (length x2)))]? fun y_4 => bif Int.tmod (wrap .i64 (Int.tdiv (wrap .i64 (Int.tdiv (wrap .i64 (Int.tdiv (wrap .i64 (Int.tdiv (wrap .i64 (Int.tdiv r.1 (ofNat 7))) (ofNat 7))) (ofNat 5))) (ofNat 16))) (ofNat 32))) (ofNat 31) == ofNat 7 then Option.bind (loop B11_0 (x0,x1,false,ofNat 0,x1,decide (x1 < ofNat 7),x2,x3,x4,(lit [122,122]),r_3.1,(lit []),y_3,y_4.1,())) kt11 else Option.bind (loop B11_0 (x0,x1,false,ofNat 0,x1,decide (x1 < ofNat 7),x2,x3,x4,y ++ y_2,r_3.1,(lit []),y_3,y_4.1,())) kt11 else none else none else bif Int.tmod (wrap .i64 (Int.tdiv (wrap .i64 (Int.tdiv (wrap .i64 (Int.tdiv (wrap .i64 (Int.tdiv (wrap .i64 (Int.tdiv r.1 (ofNat 7))) (ofNat 7))) (ofNat 5))) (ofNat 16))) (ofNat 32))) (ofNat 31) == ofNat 7 then Option.bind (loop B11_0 (x0,x1,false,ofNat 0,x1,decide (x1 < ofNat 7),x2,x3,x4,(lit [122,122]),r_3.1,(lit []),y_3,(lit []),())) kt11 else Option.bind (loop B11_0 (x0,x1,false,ofNat 0,x1,decide (x1 < ofNat 7),x2,x3,x4,y ++ y_2,r_3.1,(lit []),y_3,(lit []),())) kt11 else none else bif Int.tmod (wrap .i64 (Int.tdiv (wrap .i64 (Int.tdiv (wrap .i64 (Int.tdiv (wrap .i64 (Int.tdiv (wrap .i64 (Int.tdiv r.1 (ofNat 7))) (ofNat 7))) (ofNat 5))) (ofNat 16))) (ofNat 32))) (ofNat 5) == ofNat 0 then bif !decide (ofNat (length x2) = ofNat 0) then bif decide (ofNat 0 ≤ Int.tmod (wrap .i64 (Int.tdiv (wrap .i64 (Int.tdiv (wrap .i64 (Int.tdiv (wrap .i64 (Int.tdiv (wrap .i64 (Int.tdiv (wrap .i64 (Int.tdiv r.1 (ofNat 7))) (ofNat 7))) (ofNat 5))) (ofNat 16))) (ofNat 32))) (ofNat 5))) (ofNat (length x2))) then Option.bind x2[toNat (Int.tmod (wrap .i64 (Int.tdiv (wrap .i64 (Int.tdiv (wrap .i64 (Int.tdiv (wrap .i64 (Int.tdiv (wrap .i64 (Int.tdiv (wrap .i64 (Int.tdiv r.1 (ofNat 7))) (ofNat 7))) (ofNat 5))) (ofNat 16))) (ofNat 32))) (ofNat 5))) (ofNat (length x2)))]? fun y_3 => bif Int.tmod (wrap .i64 (Int.tdiv (wrap .i64 (Int.tdiv (wrap .i64 (Int.tdiv (wrap .i64 (Int.tdiv (wrap .i64 (Int.tdiv r.1 (ofNat 7))) (ofNat 7))) (ofNat 5))) (ofNat 16))) (ofNat 32))) (ofNat 31) == ofNat 7 then Option.bind (loop B11_0 (x0,x1,false,ofNat 0,x1,decide (x1 < ofNat 7),x2,x3,x4,(lit [122,122]),r_3.1,(lit []),(lit []),y_3.1,())) kt11 else Option.bind (loop B11_0 (x0,x1,false,ofNat 0,x1,decide (x1 < ofNat 7),x2,x3,x4,y ++ y_2,r_3.1,(lit []),(lit []),y_3.1,())) kt11 else none else none else bif Int.tmod (wrap .i64 (Int.tdiv (wrap .i64 (Int.tdiv (wrap .i64 (Int.tdiv (wrap .i64 (Int.tdiv (wrap .i64 (Int.tdiv r.1 (ofNat 7))) (ofNat 7))) (ofNat 5))) (ofNat 16))) (ofNat 32))) (ofNat 31) == ofNat 7 then Option.bind (loop B11_0 (x0,x1,false,ofNat 0,x1,decide (x1 < ofNat 7),x2,x3,x4,(lit [122,122]),r_3.1,(lit []),(lit []),(lit []),())) kt11 else Option.bind (loop B11_0 (x0,x1,false,ofNat 0,x1,decide (x1 < ofNat 7),x2,x3,x4,y ++ y_2,r_3.1,(lit []),(lit []),(lit []),())) kt11 else bif Int.tmod (wrap .i64 (Int.tdiv (wrap .i64 (Int.tdiv (wrap .i64 (Int.tdiv (wrap .i64 (Int.tdiv r.1 (ofNat 7))) (ofNat 7))) (ofNat 5))) (ofNat 16))) (ofNat 4) == ofNat 0 then bif decide (ofNat 0 ≤ Int.tmod (wrap .i64 (Int.tdiv (wrap .i64 (Int.tdiv (wrap .i64 (Int.tdiv (wrap .i64 (Int.tdiv (wrap .i64 (Int.tdiv r.1 (ofNat 7))) (ofNat 7))) (ofNat 5))) (ofNat 16))) (ofNat 4))) (ofNat 8)) then Option.bind [(lit [42]),(lit [62,61,118,49,46,48,46,48]),(lit [60,118,49,46,50,46,48]),(lit [94,118,49,46,48,46,48]),(lit [126,118,49,46,49,46,48]),(lit [118,49,46,120]),(lit [120]),(lit [118,51,46,120,32,124,124,32,118,50,46,120])][toNat (Int.tmod (wrap .i64 (Int.tdiv (wrap .i64 (Int.tdiv (wrap .i64 (Int.tdiv (wrap .i64 (Int.tdiv (wrap .i64 (Int.tdiv r.1 (ofNat 7))) (ofNat 7))) (ofNat 5))) (ofNat 16))) (ofNat 4))) (ofNat 8))]? fun y_3 => bif Int.tmod (wrap .i64 (Int.tdiv (wrap .i64 (Int.tdiv (wrap .i64 (Int.tdiv (wrap .i64 (Int.tdiv (wrap .i64 (Int.tdiv r.1 (ofNat 7))) (ofNat 7))) (ofNat 5))) (ofNat 16))) (ofNat 32))) (ofNat 5) == ofNat 0 then bif !decide (ofNat (length x2) = ofNat 0) then bif decide (ofNat 0 ≤ Int.tmod (wrap .i64 (Int.tdiv (wrap .i64 (Int.tdiv (wrap .i64 (Int.tdiv (wrap .i64 (Int.tdiv (wrap .i64 (Int.tdiv (wrap .i64 (Int.tdiv r.1 (ofNat 7))) (ofNat 7))) (ofNat 5))) (ofNat 16))) (ofNat 32))) (ofNat 5))) (ofNat (length x2))) then Option.bind x2[toNat (Int.tmod (wrap .i64 (Int.tdiv (wrap .i64 (Int.tdiv (wrap .i64 (Int.tdiv (wrap .i64 (Int.tdiv (wrap .i64 (Int.tdiv (wrap .i64 (Int.tdiv r.1 (ofNat 7))) (ofNat 7))) (ofNat 5))) (ofNat 16))) (ofNat 32))) (ofNat 5))) (ofNat (length x2)))]? fun y_4 => bif Int.tmod (wrap .i64 (Int.tdiv (wrap .i64 (Int.tdiv (wrap .i64 (Int.tdiv (wrap .i64 (Int.tdiv (wrap .i64 (Int.tdiv r.1 (ofNat 7))) (ofNat 7))) (ofNat 5))) (ofNat 16))) (ofNat 32))) (ofNat 31) == ofNat 7 then Option.bind (loop B11_0 (x0,x1,false,ofNat 0,x1,decide (x1 < ofNat 7),x2,x3,x4,(lit [122,122]),r_3.1,(lit []),y_3,y_4.1,())) kt11 else Option.bind (loop B11_0 (x0,x1,false,ofNat 0,x1,decide (x1 < ofNat 7),x2,x3,x4,y ++ y_2,r_3.1,(lit []),y_3,y_4.1,())) kt11 else none else none else bif Int.tmod (wrap .i64 (Int.tdiv (wrap .i64 (Int.tdiv (wrap .i64 (Int.tdiv (wrap .i64 (Int.tdiv (wrap .i64 (Int.tdiv r.1 (ofNat 7))) (ofNat 7))) (ofNat 5))) (ofNat 16))) (ofNat 32))) (ofNat 31) == ofNat 7 then Option.bind (loop B11_0 (x0,x1,false,ofNat 0,x1,decide (x1 < ofNat 7),x2,x3,x4,(lit [122,122]),r_3.1,(lit []),y_3,(lit []),())) kt11 else Option.bind (loop B11_0 (x0,x1,false,ofNat 0,x1,decide (x1 < ofNat 7),x2,x3,x4,y ++ y_2,r_3.1,(lit []),y_3,(lit []),())) kt11 else none else bif Int.tmod (wrap .i64 (Int.tdiv (wrap .i64 (Int.tdiv (wrap .i64 (Int.tdiv (wrap .i64 (Int.tdiv (wrap .i64 (Int.tdiv r.1 (ofNat 7))) (ofNat 7))) (ofNat 5))) (ofNat 16))) (ofNat 32))) (ofNat 5) == ofNat 0 then bif !decide (ofNat (length x2) = ofNat 0) then bif decide (ofNat 0 ≤ Int.tmod (wrap .i64 (Int.tdiv (wrap .i64 (Int.tdiv (wrap .i64 (Int.tdiv (wrap .i64 (Int.tdiv (wrap .i64 (Int.tdiv (wrap .i64 (Int.tdiv r.1 (ofNat 7))) (ofNat 7))) (ofNat 5))) (ofNat 16))) (ofNat 32))) (ofNat 5))) (ofNat (length x2))) then Option.bind x2[toNat (Int.tmod (wrap .i64 (Int.tdiv (wrap .i64 (Int.tdiv (wrap .i64 (Int.tdiv (wrap .i64 (Int.tdiv (wrap .i64 (Int.tdiv (wrap .i64 (Int.tdiv r.1 (ofNat 7))) (ofNat 7))) (ofNat 5))) (ofNat 16))) (ofNat 32))) (ofNat 5))) (ofNat (length x2)))]? fun y_3 => bif Int.tmod (wrap .i64 (Int.tdiv (wrap .i64 (Int.tdiv (wrap .i64 (Int.tdiv (wrap .i64 (Int.tdiv (wrap .i64 (Int.tdiv r.1 (ofNat 7))) (ofNat 7))) (ofNat 5))) (ofNat 16))) (ofNat 32))) (ofNat 31) == ofNat 7 then Option.bind (loop B11_0 (x0,x1,false,ofNat 0,x1,decide (x1 < ofNat 7),x2,x3,x4,(lit [122,122]),r_3.1,(lit []),(lit []),y_3.1,())) kt11 else Option.bind (loop B11_0 (x0,x1,false,ofNat 0,x1,decide (x1 < ofNat 7),x2,x3,x4,y ++ y_2,r_3.1,(lit []),(lit []),y_3.1,())) kt11 else none else none else bif Int.tmod (wrap .i64 (Int.tdiv (wrap .i64 (Int.tdiv (wrap .i64 (Int.tdiv (wrap .i64 (Int.tdiv (wrap .i64 (Int.tdiv r.1 (ofNat 7))) (ofNat 7))) (ofNat 5))) (ofNat 16))) (ofNat 32))) (ofNat 31) == ofNat 7 then Option.bind (loop B11_0 (x0,x1,false,ofNat 0,x1,decide (x1 < ofNat 7),x2,x3,x4,(lit [122,122]),r_3.1,(lit []),(lit []),(lit []),())) kt11 else Option.bind (loop B11_0 (x0,x1,false,ofNat 0,x1,decide (x1 < ofNat 7),x2,x3,x4,y ++ y_2,r_3.1,(lit []),(lit []),(lit []),())) kt11 else none else none else none else none else none else none else none else none else some (inr (x4,())) else some (inr (x4,())):=by kernel_rfl
theorem F11_eq (x0:List R2) (x1:List R3) (x2:List Int):F11 (x0,x1,x2,()) =
 Option.bind (loop B11_1 (x2,ofNat 0,x0,x1,[],())) fun r => some (r.1,()):=by kernel_rfl
theorem B78_0_eq (x0:Int) (x1:List Int) (x2 x3:Int):B78_0 (x0,x1,x2,x3,()) =
 bif decide (x3 < x2) then bif decide (ofNat 0 ≤ x3) then Option.bind x1[toNat x3]? fun y => bif !y == x0 then some (inr (inl (y,()))) else some (inl (x0,x1,x2,wrap .i64 (x3 + ofNat 1),())) else none else some (inr (inr (x0,()))):=by kernel_rfl
theorem F78_eq (x0:List Int):F78 (x0,()) =
 Option.bind (loop B78_0 (ofNat 0,x0,ofNat (length x0),ofNat 0,())) fun r => elim (fun p => some (p.1,())) (fun p => some (p.1,())) r:=by kernel_rfl
theorem F134_eq (x0:Int):F134 (x0,()) =
 some (!x0 == x0,()):=by kernel_rfl
theorem F79_eq (x0 x1:Int):F79 (x0,x1,()) =
 Option.bind (F134 (x0,())) fun r => Option.bind (F134 (x1,())) fun r_1 => bif r.1 then bif r_1.1 then some (ofNat 0,()) else some (Int.negSucc 0,()) else bif r_1.1 then some (ofNat 1,()) else bif decide (x0 < x1) then some (Int.negSucc 0,()) else bif decide (x0 > x1) then some (ofNat 1,()) else some (ofNat 0,()):=by kernel_rfl
theorem B188_0_eq (x0:ByteArray) (x1 x2:Int):B188_0 (x0,x1,x2,()) =
 bif decide (x2 < x1) then bif decide (ofNat 0 ≤ x2) && decide (x2 < ofNat (size x0)) then bif decide (bt x0 x2 < ofNat 48) then some (inr (inl (false,()))) else bif decide (ofNat 0 ≤ x2) && decide (x2 < ofNat (size x0)) then bif decide (bt x0 x2 > ofNat 57) then some (inr (inl (false,()))) else some (inl (x0,x1,wrap .i64 (x2 + ofNat 1),())) else none else none else some (inr (inr (x0,()))):=by kernel_rfl
theorem F188_eq (x0:ByteArray):F188 (x0,()) =
 Option.bind (loop B188_0 (x0,ofNat (size x0),ofNat 0,())) fun r => elim (fun p => some (p.1,())) (fun p => some (!bl p.1 == [],())) r:=by kernel_rfl
theorem F238_eq (x0:ByteArray):F238 (x0,()) =
 some (!bl x0 == bl x0,()):=by kernel_rfl
theorem F189_eq (x0 x1:ByteArray):F189 (x0,x1,()) =
 Option.bind (F238 (x0,())) fun r => Option.bind (F238 (x1,())) fun r_1 => bif r.1 then bif r_1.1 then some (ofNat 0,()) else some (Int.negSucc 0,()) else bif r_1.1 then some (ofNat 1,()) else bif Op.bytesLess (bl x0) (bl x1) then some (Int.negSucc 0,()) else bif !(Op.bytesLess (bl x0) (bl x1) || bl x0 == bl x1) then some (ofNat 1,()) else some (ofNat 0,()):=by kernel_rfl
theorem F137_eq (x0 x1:ByteArray):F137 (x0,x1,()) =
 Option.bind (F188 (x0,())) fun r => Option.bind (F188 (x1,())) fun r_1 => bif r.1 then bif r_1.1 then Option.bind (F79 (ofNat (size x0),ofNat (size x1),())) fun r => Option.bind (F189 (x0,x1,())) fun r_2 => Option.bind (F78 ([r.1,r_2.1],())) fun r => some (r.1,()) else bif r.1 then some (Int.negSucc 0,()) else bif r_1.1 then some (ofNat 1,()) else Option.bind (F189 (x0,x1,())) fun r => some (r.1,()) else bif r.1 then some (Int.negSucc 0,()) else bif r_1.1 then some (ofNat 1,()) else Option.bind (F189 (x0,x1,())) fun r => some (r.1,()):=by kernel_rfl
theorem B135_0_eq (x0 x1 x2:List ByteArray) (x3 x4:Int):B135_0 (x0,x1,x2,x3,x4,()) =
 bif decide (x4 < x3) then bif decide (ofNat 0 ≤ x4) then Option.bind x2[toNat x4]? fun y => bif decide (x4 ≥ ofNat (length x1)) then some (inr (inl (ofNat 1,()))) else bif decide (ofNat 0 ≤ x4) then Option.bind x1[toNat x4]? fun y_1 => Option.bind (F137 (y,y_1,())) fun r => bif !r.1 == ofNat 0 then some (inr (inl (r.1,()))) else some (inl (x0,x1,x2,x3,wrap .i64 (x4 + ofNat 1),())) else none else none else some (inr (inr (x0,x1,()))):=by kernel_rfl
theorem F135_eq (x0 x1:List ByteArray):F135 (x0,x1,()) =
 Option.bind (loop B135_0 (x0,x1,x0,ofNat (length x0),ofNat 0,())) fun r => elim (fun p => some (p.1,())) (fun p => bif decide (ofNat (length p.1) < ofNat (length p.2.1)) then some (Int.negSucc 0,()) else some (ofNat 0,())) r:=by kernel_rfl
theorem F272_eq (x0:ByteArray) (x1:Int):F272 (x0,x1,()) =
 some (xIndexByte x0 x1,()):=by kernel_rfl
theorem F239_eq (x0 x1:ByteArray):F239 (x0,x1,()) =
 bif ofNat (size x1) == ofNat 0 then some (ofNat 0,()) else bif bl x1 == bl x0 then some (ofNat 0,()) else bif ofNat (size x1) == ofNat 1 then bif decide (ofNat 0 < ofNat (size x1)) then Option.bind (F272 (x0,bt x1 (ofNat 0),())) fun r => some (r.1,()) else none else bif decide (ofNat (size x1) ≥ ofNat (size x0)) then some (Int.negSucc 0,()) else none:=by kernel_rfl
theorem F237_eq (x0 x1:ByteArray):F237 (x0,x1,()) =
 Option.bind (F239 (x0,x1,())) fun r => some (r.1,()):=by kernel_rfl
theorem F236_eq (x0 x1:ByteArray):F236 (x0,x1,()) =
 bif ofNat (size x1) == ofNat 0 then Option.bind (F269 (x0,())) fun r => some (wrap .i64 (r.1 + ofNat 1),()) else bif ofNat (size x1) == ofNat 1 then bif decide (ofNat 0 < ofNat (size x1)) then some (xCount x0 (bt x1 (ofNat 0)),()) else none else Option.bind (loop B236_0 (x0,x1,ofNat 0,())) fun r => some (r.1,()):=by kernel_rfl
theorem B187_0_eq (x0 x1:ByteArray) (x2 x3 x4:Int) (x5:List ByteArray):B187_0 (x0,x1,x2,x3,x4,x5,()) =
 bif decide (x4 < x3) then Option.bind (F237 (x0,x1,())) fun r => bif decide (r.1 < ofNat 0) then some (inr (x0,x4,x5,())) else bif decide (ofNat 0 ≤ wrap .i64 (r.1 + x2)) && decide (wrap .i64 (r.1 + x2) ≤ ofNat (size x0)) then bif decide (ofNat 0 ≤ x4) && decide (x4 < ofNat (length x5)) then Option.bind x5[toNat x4]? fun y => bif decide (ofNat 0 ≤ wrap .i64 (r.1 + ofNat (size x1))) && (decide (wrap .i64 (r.1 + ofNat (size x1)) ≤ ofNat (size x0)) && decide (ofNat (size x0) ≤ ofNat (size x0))) then some (inl (ByteArray.extract x0 (toNat (wrap .i64 (r.1 + ofNat (size x1)))) (toNat (ofNat (size x0))),x1,x2,x3,wrap .i64 (x4 + ofNat 1),List.set x5 (toNat x4) (ByteArray.extract x0 0 (toNat (wrap .i64 (r.1 + x2)))),())) else none else none else none else some (inr (x0,x4,x5,())):=by kernel_rfl
theorem F187_eq (x0 x1:ByteArray) (x2 x3:Int):F187 (x0,x1,x2,x3,()) =
 bif x3 == ofNat 0 then some ([],()) else bif bl x1 == [] then none else bif decide (x3 < ofNat 0) then Option.bind (F236 (x0,x1,())) fun r => bif decide (ofNat 0 ≤ bif decide (wrap .i64 (ofNat (size x0) + ofNat 1) < wrap .i64 (r.1 + ofNat 1)) then wrap .i64 (ofNat (size x0) + ofNat 1) else wrap .i64 (r.1 + ofNat 1)) && (decide ((bif decide (wrap .i64 (ofNat (size x0) + ofNat 1) < wrap .i64 (r.1 + ofNat 1)) then wrap .i64 (ofNat (size x0) + ofNat 1) else wrap .i64 (r.1 + ofNat 1)) ≤ bif decide (wrap .i64 (ofNat (size x0) + ofNat 1) < wrap .i64 (r.1 + ofNat 1)) then wrap .i64 (ofNat (size x0) + ofNat 1) else wrap .i64 (r.1 + ofNat 1)) && decide ((ofNat 16 * bif decide (wrap .i64 (ofNat (size x0) + ofNat 1) < wrap .i64 (r.1 + ofNat 1)) then wrap .i64 (ofNat (size x0) + ofNat 1) else wrap .i64 (r.1 + ofNat 1)) ≤ ofNat 281474976710656) && decide ((bif decide (wrap .i64 (ofNat (size x0) + ofNat 1) < wrap .i64 (r.1 + ofNat 1)) then wrap .i64 (ofNat (size x0) + ofNat 1) else wrap .i64 (r.1 + ofNat 1)) ≤ ofNat 9223372036854775807)) then Option.bind (loop B187_0 (x0,x1,x2,wrap .i64 ((bif decide (wrap .i64 (ofNat (size x0) + ofNat 1) < wrap .i64 (r.1 + ofNat 1)) then wrap .i64 (ofNat (size x0) + ofNat 1) else wrap .i64 (r.1 + ofNat 1)) - ofNat 1),ofNat 0,List.replicate (toNat (bif decide (wrap .i64 (ofNat (size x0) + ofNat 1) < wrap .i64 (r.1 + ofNat 1)) then wrap .i64 (ofNat (size x0) + ofNat 1) else wrap .i64 (r.1 + ofNat 1))) (lit []),())) fun r => bif decide (ofNat 0 ≤ r.2.1) && decide (r.2.1 < ofNat (length r.2.2.1)) then Option.bind r.2.2.1[toNat r.2.1]? fun y => bif decide (ofNat 0 ≤ wrap .i64 (r.2.1 + ofNat 1)) && (decide (wrap .i64 (r.2.1 + ofNat 1) ≤ ofNat (length (List.set r.2.2.1 (toNat r.2.1) r.1))) && decide (ofNat (length (List.set r.2.2.1 (toNat r.2.1) r.1)) ≤ ofNat (length (List.set r.2.2.1 (toNat r.2.1) r.1)))) then some (List.drop 0 (List.take (0 + toNat (wrap .i64 (r.2.1 + ofNat 1))) (List.set r.2.2.1 (toNat r.2.1) r.1)),()) else none else none else none else bif decide (ofNat 0 ≤ bif decide (wrap .i64 (ofNat (size x0) + ofNat 1) < x3) then wrap .i64 (ofNat (size x0) + ofNat 1) else x3) && (decide ((bif decide (wrap .i64 (ofNat (size x0) + ofNat 1) < x3) then wrap .i64 (ofNat (size x0) + ofNat 1) else x3) ≤ bif decide (wrap .i64 (ofNat (size x0) + ofNat 1) < x3) then wrap .i64 (ofNat (size x0) + ofNat 1) else x3) && decide ((ofNat 16 * bif decide (wrap .i64 (ofNat (size x0) + ofNat 1) < x3) then wrap .i64 (ofNat (size x0) + ofNat 1) else x3) ≤ ofNat 281474976710656) && decide ((bif decide (wrap .i64 (ofNat (size x0) + ofNat 1) < x3) then wrap .i64 (ofNat (size x0) + ofNat 1) else x3) ≤ ofNat 9223372036854775807)) then Option.bind (loop B187_0 (x0,x1,x2,wrap .i64 ((bif decide (wrap .i64 (ofNat (size x0) + ofNat 1) < x3) then wrap .i64 (ofNat (size x0) + ofNat 1) else x3) - ofNat 1),ofNat 0,List.replicate (toNat (bif decide (wrap .i64 (ofNat (size x0) + ofNat 1) < x3) then wrap .i64 (ofNat (size x0) + ofNat 1) else x3)) (lit []),())) fun r => bif decide (ofNat 0 ≤ r.2.1) && decide (r.2.1 < ofNat (length r.2.2.1)) then Option.bind r.2.2.1[toNat r.2.1]? fun y => bif decide (ofNat 0 ≤ wrap .i64 (r.2.1 + ofNat 1)) && (decide (wrap .i64 (r.2.1 + ofNat 1) ≤ ofNat (length (List.set r.2.2.1 (toNat r.2.1) r.1))) && decide (ofNat (length (List.set r.2.2.1 (toNat r.2.1) r.1)) ≤ ofNat (length (List.set r.2.2.1 (toNat r.2.1) r.1)))) then some (List.drop 0 (List.take (0 + toNat (wrap .i64 (r.2.1 + ofNat 1))) (List.set r.2.2.1 (toNat r.2.1) r.1)),()) else none else none else none:=by kernel_rfl
theorem F136_eq (x0 x1:ByteArray):F136 (x0,x1,()) =
 Option.bind (F187 (x0,x1,ofNat 0,Int.negSucc 0,())) fun r => some (r.1,()):=by kernel_rfl
theorem F80_eq (x0 x1:ByteArray):F80 (x0,x1,()) =
 bif bl x0 == bl x1 then some (ofNat 0,()) else bif bl x0 == [] then some (ofNat 1,()) else bif bl x1 == [] then some (Int.negSucc 0,()) else Option.bind (F136 (x0,(lit [46]),())) fun r => Option.bind (F136 (x1,(lit [46]),())) fun r_1 => Option.bind (F135 (r.1,r_1.1,())) fun r => some (r.1,()):=by kernel_rfl
theorem F45_eq (x0 x1 x2:Int) (x3:ByteArray) (x4 x5 x6:Int) (x7:ByteArray):F45 (x0,x1,x2,x3,x4,x5,x6,x7,()) =
 Option.bind (F79 (x0,x4,())) fun r => Option.bind (F79 (x1,x5,())) fun r_1 => Option.bind (F79 (x2,x6,())) fun r_2 => Option.bind (F80 (x3,x7,())) fun r_3 => Option.bind (F78 ([r.1,r_1.1,r_2.1,r_3.1],())) fun r => some (r.1,()):=by kernel_rfl
theorem B58_0_eq (x0:List R2) (x1 x2:Int) (x3:List ByteArray):B58_0 (x0,x1,x2,x3,()) =
 bif decide (x2 < x1) then bif decide (ofNat 0 ≤ x2) then Option.bind x0[toNat x2]? fun y => bif decide (length x3 + length [y.1] ≤ 8796093022208) then some (inl (x0,x1,wrap .i64 (x2 + ofNat 1),x3 ++ [y.1],())) else none else none else some (inr (x3,())):=by kernel_rfl
theorem F58_eq (x0:List R2) (x1:List R3):F58 (x0,x1,()) =
 Option.bind (loop B58_0 (x0,ofNat (length x0),ofNat 0,[],())) fun r => Option.bind (F87 (r.1,())) fun r => some (r.1,()):=by kernel_rfl
theorem F195_eq (x0 x1:ByteArray):F195 (x0,x1,()) =
 bif decide (ofNat (size x0) ≥ ofNat (size x1)) then bif decide (ofNat 0 ≤ ofNat (size x1)) && decide (ofNat (size x1) ≤ ofNat (size x0)) then some (bl (ByteArray.extract x0 0 (toNat (ofNat (size x1)))) == bl x1,()) else none else some (false,()):=by kernel_rfl
theorem F145_eq (x0 x1:ByteArray):F145 (x0,x1,()) =
 Option.bind (F195 (x0,x1,())) fun r => some (r.1,()):=by kernel_rfl
theorem B92_0_eq (x0 x1:ByteArray) (x2:List R3) (x3 x4 x5 x6 x7:Int) (x8:ByteArray) (x9:List R3):B92_0 (x0,x1,x2,x3,x4,x5,x6,x7,x8,x9,()) =
 bif decide (x4 < x3) then bif decide (ofNat 0 ≤ x4) then Option.bind x2[toNat x4]? fun y => bif bl y.1 == bl x0 then bif decide (ofNat (size x1) ≥ ofNat 12) then Option.bind (F145 (y.2.1,x1,())) fun r => bif r.1 then bif decide (length x9 + length [(y.1,y.2.1,y.2.2.1,y.2.2.2.1,y.2.2.2.2.1,y.2.2.2.2.2.1,y.2.2.2.2.2.2.1,y.2.2.2.2.2.2.2.1,y.2.2.2.2.2.2.2.2.1,())] ≤ 1599289640401) then some (inl (x0,x1,x2,x3,wrap .i64 (x4 + ofNat 1),x5,x6,x7,x8,x9 ++ [(y.1,y.2.1,y.2.2.1,y.2.2.2.1,y.2.2.2.2.1,y.2.2.2.2.2.1,y.2.2.2.2.2.2.1,y.2.2.2.2.2.2.2.1,y.2.2.2.2.2.2.2.2.1,())],())) else none else some (inl (x0,x1,x2,x3,wrap .i64 (x4 + ofNat 1),x5,x6,x7,x8,x9,())) else some (inl (x0,x1,x2,x3,wrap .i64 (x4 + ofNat 1),x5,x6,x7,x8,x9,())) else some (inl (x0,x1,x2,x3,wrap .i64 (x4 + ofNat 1),x5,x6,x7,x8,x9,())) else none else some (inr (x5,x6,x7,x8,x9,())):=by kernel_rfl
theorem F92_eq (x0:List R2) (x1:List R3) (x2 x3:ByteArray):F92 (x0,x1,x2,x3,()) =
 Option.bind (loop B92_0 (x2,x3,x1,ofNat (length x1),ofNat 0,ofNat 0,ofNat 0,ofNat 0,(lit []),[],())) fun r => bif !ofNat (length r.2.2.2.2.1) == ofNat 1 then some (ofNat 0,ofNat 0,ofNat 0,(lit []),false,()) else Option.bind r.2.2.2.2.1[0]? fun y => bif y.2.2.1 then Option.bind r.2.2.2.2.1[0]? fun y => some (y.2.2.2.2.1,y.2.2.2.2.2.1,y.2.2.2.2.2.2.1,y.2.2.2.2.2.2.2.1,true,()) else Option.bind r.2.2.2.2.1[0]? fun y => Option.bind r.2.2.2.2.1[0]? fun y_1 => Option.bind r.2.2.2.2.1[0]? fun y_2 => Option.bind r.2.2.2.2.1[0]? fun y_3 => Option.bind (F151 (y.2.2.2.1,y_1.2.2.2.2.1,y_1.2.2.2.2.2.1,y_1.2.2.2.2.2.2.1,y_1.2.2.2.2.2.2.2.1,y_2.2.2.2.2.2.2.2.2.1,y_3.2.1,())) fun r => some (r.1,r.2.1,r.2.2.1,r.2.2.2.1,r.2.2.2.2.1,()):=by kernel_rfl
theorem B203_0_eq (x0:ByteArray) (x1:List R2) (x2 x3:Int) (x4:ByteArray):B203_0 (x0,x1,x2,x3,x4,()) =
 bif decide (x3 < x2) then bif decide (ofNat 0 ≤ x3) then Option.bind x1[toNat x3]? fun y => bif bl y.1 == bl x0 then some (inr (inl (true,y.1,y.2.1,()))) else some (inl (x0,x1,x2,wrap .i64 (x3 + ofNat 1),x4,())) else none else some (inr (inr (x4,()))):=by kernel_rfl
theorem F203_eq (x0:List R2) (x1:List R3) (x2:ByteArray):F203 (x0,x1,x2,()) =
 Option.bind (loop B203_0 (x2,x0,ofNat (length x0),ofNat 0,(lit []),())) fun r => elim (fun p => some (p.2.1,p.2.2.1,p.1,())) (fun p => some ((lit []),[],false,())) r:=by kernel_rfl
theorem B153_0_eq (x0:List R1) (x1 x2 x3 x4 x5:Int) (x6:ByteArray) (x7 x8 x9:Int) (x10 x11 x12:ByteArray):B153_0 (x0,x1,x2,x3,x4,x5,x6,x7,x8,x9,x10,x11,x12,()) =
 bif decide (x2 < x1) then bif decide (ofNat 0 ≤ x2) then Option.bind x0[toNat x2]? fun y => bif y.1 == x3 && (y.2.1 == x4 && (y.2.2.1 == x5 && bl y.2.2.2.1 == bl x6)) then some (inr (inl (true,y.1,y.2.1,y.2.2.1,y.2.2.2.1,y.2.2.2.2.1,y.2.2.2.2.2.1,y.2.2.2.2.2.2.1,()))) else some (inl (x0,x1,wrap .i64 (x2 + ofNat 1),x3,x4,x5,x6,x7,x8,x9,x10,x11,x12,())) else none else some (inr (inr (x7,x8,x9,x10,x11,x12,()))):=by kernel_rfl
theorem F153_eq (x0:List R2) (x1:List R3) (x2:ByteArray) (x3 x4 x5:Int) (x6:ByteArray):F153 (x0,x1,x2,x3,x4,x5,x6,()) =
 Option.bind (F203 (x0,x1,x2,())) fun r => Option.bind (loop B153_0 (r.2.1,ofNat (length r.2.1),ofNat 0,x3,x4,x5,x6,ofNat 0,ofNat 0,ofNat 0,(lit []),(lit []),(lit []),())) fun r => elim (fun p => some (p.2.1,p.2.2.1,p.2.2.2.1,p.2.2.2.2.1,p.2.2.2.2.2.1,p.2.2.2.2.2.2.1,p.2.2.2.2.2.2.2.1,p.1,())) (fun p => some (ofNat 0,ofNat 0,ofNat 0,(lit []),[],(lit []),(lit []),false,())) r:=by kernel_rfl
theorem F94_eq (x0:List R2) (x1:List R3) (x2:ByteArray) (x3 x4 x5:Int) (x6:ByteArray):F94 (x0,x1,x2,x3,x4,x5,x6,()) =
 Option.bind (F153 (x0,x1,x2,x3,x4,x5,x6,())) fun r => Option.bind (F47 (r.2.2.2.2.1,())) fun r_1 => some (r.1,r.2.1,r.2.2.1,r.2.2.2.1,r_1.1,r.2.2.2.2.2.1,r.2.2.2.2.2.2.1,r.2.2.2.2.2.2.2.1,()):=by kernel_rfl
theorem F61_eq (x0:List R2) (x1:List R3) (x2 x3 x4 x5 x6 x7:ByteArray):F61 (x0,x1,x2,x3,x4,x5,x6,x7,()) =
 bif !bl x6 == [] then Option.bind (F91 (x3,())) fun r => bif !bl x4 == [] then Option.bind (F92 (x0,x1,x6,x4,())) fun r => bif !r.2.2.2.2.1 then some (ofNat 0,ofNat 0,ofNat 0,(lit []),false,()) else Option.bind (F93 (x7,r.1,r.2.1,r.2.2.1,r.2.2.2.1,())) fun r_1 => bif !r_1.1 then some (ofNat 0,ofNat 0,ofNat 0,(lit []),false,()) else Option.bind (F93 (x6,r.1,r.2.1,r.2.2.1,r.2.2.2.1,())) fun r_2 => bif !r_2.1 then some (ofNat 0,ofNat 0,ofNat 0,(lit []),false,()) else Option.bind (F94 (x0,x1,x6,r.1,r.2.1,r.2.2.1,r.2.2.2.1,())) fun r_3 => some (r.1,r.2.1,r.2.2.1,r.2.2.2.1,r_3.2.2.2.2.2.2.2.1,()) else bif !r.2.2.2.2.1 then some (ofNat 0,ofNat 0,ofNat 0,(lit []),false,()) else Option.bind (F93 (x7,r.1,r.2.1,r.2.2.1,r.2.2.2.1,())) fun r_1 => bif !r_1.1 then some (ofNat 0,ofNat 0,ofNat 0,(lit []),false,()) else Option.bind (F93 (x6,r.1,r.2.1,r.2.2.1,r.2.2.2.1,())) fun r_2 => bif !r_2.1 then some (ofNat 0,ofNat 0,ofNat 0,(lit []),false,()) else Option.bind (F94 (x0,x1,x6,r.1,r.2.1,r.2.2.1,r.2.2.2.1,())) fun r_3 => some (r.1,r.2.1,r.2.2.1,r.2.2.2.1,r_3.2.2.2.2.2.2.2.1,()) else Option.bind (F91 (x3,())) fun r => bif !bl x4 == [] then Option.bind (F92 (x0,x1,x7,x4,())) fun r => bif !r.2.2.2.2.1 then some (ofNat 0,ofNat 0,ofNat 0,(lit []),false,()) else Option.bind (F93 (x7,r.1,r.2.1,r.2.2.1,r.2.2.2.1,())) fun r_1 => bif !r_1.1 then some (ofNat 0,ofNat 0,ofNat 0,(lit []),false,()) else Option.bind (F93 (x7,r.1,r.2.1,r.2.2.1,r.2.2.2.1,())) fun r_2 => bif !r_2.1 then some (ofNat 0,ofNat 0,ofNat 0,(lit []),false,()) else Option.bind (F94 (x0,x1,x7,r.1,r.2.1,r.2.2.1,r.2.2.2.1,())) fun r_3 => some (r.1,r.2.1,r.2.2.1,r.2.2.2.1,r_3.2.2.2.2.2.2.2.1,()) else bif !r.2.2.2.2.1 then some (ofNat 0,ofNat 0,ofNat 0,(lit []),false,()) else Option.bind (F93 (x7,r.1,r.2.1,r.2.2.1,r.2.2.2.1,())) fun r_1 => bif !r_1.1 then some (ofNat 0,ofNat 0,ofNat 0,(lit []),false,()) else Option.bind (F93 (x7,r.1,r.2.1,r.2.2.1,r.2.2.2.1,())) fun r_2 => bif !r_2.1 then some (ofNat 0,ofNat 0,ofNat 0,(lit []),false,()) else Option.bind (F94 (x0,x1,x7,r.1,r.2.1,r.2.2.1,r.2.2.2.1,())) fun r_3 => some (r.1,r.2.1,r.2.2.1,r.2.2.2.1,r_3.2.2.2.2.2.2.2.1,()):=by kernel_rfl
theorem B31_0_eq (x0 x1:Int) (x2:List ByteArray) (x3 x4:Int) (x5:List R2) (x6:List R3) (x7 x8 x9 x10 x11 x12:ByteArray) (x13 x14 x15:Int) (x16 x17:ByteArray) (x18 x19 x20:Int) (x21 x22:ByteArray) (x23 x24 x25:Int) (x26 x27:ByteArray) (x28 x29 x30:Int) (x31:ByteArray):B31_0 (x0,x1,x2,x3,x4,x5,x6,x7,x8,x9,x10,x11,x12,x13,x14,x15,x16,x17,x18,x19,x20,x21,x22,x23,x24,x25,x26,x27,x28,x29,x30,x31,()) =
 bif decide (x4 < x3) then bif decide (ofNat 0 ≤ x4) then Option.bind x2[toNat x4]? fun y => Option.bind (F59 (y,())) fun r => Option.bind (F60 (x7,r.1,())) fun r_1 => bif !r_1.1 then some (inl (x0,x1,x2,x3,wrap .i64 (x4 + ofNat 1),x5,x6,x7,x8,x9,x10,x11,x12,x13,x14,x15,x16,x17,x18,x19,x20,x21,x22,x23,x24,x25,x26,x27,x28,x29,x30,x31,())) else bif x0 == ofNat 8 then Option.bind (F61 (x5,x6,x7,x8,x9,x10,x11,y,())) fun r_2 => bif !r_2.2.2.2.2.1 then some (inl (ofNat 9,x1,x2,x3,wrap .i64 (x4 + ofNat 1),x5,x6,x7,x8,x9,x10,x11,x12,x13,x14,x15,x16,x17,x18,x19,x20,x21,x22,x23,x24,x25,x26,x27,x28,x29,x30,x31,())) else bif decide (ofNat (size r.1) < x1) then some (inl (ofNat 9,x1,x2,x3,wrap .i64 (x4 + ofNat 1),x5,x6,x7,x8,x9,x10,x11,x12,x13,x14,x15,x16,x17,x18,x19,x20,x21,x22,x23,x24,x25,x26,x27,x28,x29,x30,x31,())) else bif ofNat (size r.1) == x1 then Option.bind (F45 (r_2.1,r_2.2.1,r_2.2.2.1,r_2.2.2.2.1,x23,x24,x25,x26,())) fun r_3 => bif decide (r_3.1 ≤ ofNat 0) then some (inl (ofNat 9,x1,x2,x3,wrap .i64 (x4 + ofNat 1),x5,x6,x7,x8,x9,x10,x11,x12,x13,x14,x15,x16,x17,x18,x19,x20,x21,x22,x23,x24,x25,x26,x27,x28,x29,x30,x31,())) else some (inl (ofNat 0,ofNat (size r.1),x2,x3,wrap .i64 (x4 + ofNat 1),x5,x6,x7,x8,x9,x10,x11,x12,x13,x14,x15,x16,x17,x18,x19,x20,x21,y,r_2.1,r_2.2.1,r_2.2.2.1,r_2.2.2.2.1,(lit []),ofNat 0,ofNat 0,ofNat 0,(lit []),())) else some (inl (ofNat 0,ofNat (size r.1),x2,x3,wrap .i64 (x4 + ofNat 1),x5,x6,x7,x8,x9,x10,x11,x12,x13,x14,x15,x16,x17,x18,x19,x20,x21,y,r_2.1,r_2.2.1,r_2.2.2.1,r_2.2.2.2.1,(lit []),ofNat 0,ofNat 0,ofNat 0,(lit []),())) else Option.bind (F61 (x5,x6,x7,x8,x9,x10,x11,y,())) fun r_2 => bif !r_2.2.2.2.2.1 then some (inl (x0,x1,x2,x3,wrap .i64 (x4 + ofNat 1),x5,x6,x7,x8,x9,x10,x11,x12,x13,x14,x15,x16,x17,x18,x19,x20,x21,x22,x23,x24,x25,x26,x27,x28,x29,x30,x31,())) else bif decide (ofNat (size r.1) < x1) then some (inl (x0,x1,x2,x3,wrap .i64 (x4 + ofNat 1),x5,x6,x7,x8,x9,x10,x11,x12,x13,x14,x15,x16,x17,x18,x19,x20,x21,x22,x23,x24,x25,x26,x27,x28,x29,x30,x31,())) else bif ofNat (size r.1) == x1 then Option.bind (F45 (r_2.1,r_2.2.1,r_2.2.2.1,r_2.2.2.2.1,x23,x24,x25,x26,())) fun r_3 => bif decide (r_3.1 ≤ ofNat 0) then some (inl (x0,x1,x2,x3,wrap .i64 (x4 + ofNat 1),x5,x6,x7,x8,x9,x10,x11,x12,x13,x14,x15,x16,x17,x18,x19,x20,x21,x22,x23,x24,x25,x26,x27,x28,x29,x30,x31,())) else some (inl (ofNat 0,ofNat (size r.1),x2,x3,wrap .i64 (x4 + ofNat 1),x5,x6,x7,x8,x9,x10,x11,x12,x13,x14,x15,x16,x17,x18,x19,x20,x21,y,r_2.1,r_2.2.1,r_2.2.2.1,r_2.2.2.2.1,(lit []),ofNat 0,ofNat 0,ofNat 0,(lit []),())) else some (inl (ofNat 0,ofNat (size r.1),x2,x3,wrap .i64 (x4 + ofNat 1),x5,x6,x7,x8,x9,x10,x11,x12,x13,x14,x15,x16,x17,x18,x19,x20,x21,y,r_2.1,r_2.2.1,r_2.2.2.1,r_2.2.2.2.1,(lit []),ofNat 0,ofNat 0,ofNat 0,(lit []),())) else none else some (inr (x0,x7,x8,x9,x10,x11,x12,x13,x14,x15,x16,x17,x18,x19,x20,x21,x22,x23,x24,x25,x26,x27,x28,x29,x30,x31,())):=by kernel_rfl
theorem F31_eq (x0:List R2) (x1:List R3) (x2 x3 x4 x5 x6:ByteArray):F31 (x0,x1,x2,x3,x4,x5,x6,()) =
 Option.bind (F58 (x0,x1,())) fun r => Option.bind (loop B31_0 (ofNat 8,Int.negSucc 0,r.1,ofNat (length r.1),ofNat 0,x0,x1,x2,x3,x4,x5,x6,(lit []),ofNat 0,ofNat 0,ofNat 0,(lit []),(lit []),ofNat 0,ofNat 0,ofNat 0,(lit []),(lit []),ofNat 0,ofNat 0,ofNat 0,(lit []),(lit []),ofNat 0,ofNat 0,ofNat 0,(lit []),())) fun r => bif !bl r.2.2.2.2.2.1 == [] then bif r.1 == ofNat 0 then some (r.2.2.2.2.2.2.2.2.2.2.2.2.2.2.2.2.1,r.2.2.2.2.2.2.2.2.2.2.2.2.2.2.2.2.2.1,r.2.2.2.2.2.2.2.2.2.2.2.2.2.2.2.2.2.2.1,r.2.2.2.2.2.2.2.2.2.2.2.2.2.2.2.2.2.2.2.1,r.2.2.2.2.2.2.2.2.2.2.2.2.2.2.2.2.2.2.2.2.1,r.2.2.2.2.2.1,r.2.2.2.2.2.2.2.2.2.2.2.2.2.2.2.2.2.1,r.2.2.2.2.2.2.2.2.2.2.2.2.2.2.2.2.2.2.1,r.2.2.2.2.2.2.2.2.2.2.2.2.2.2.2.2.2.2.2.1,r.2.2.2.2.2.2.2.2.2.2.2.2.2.2.2.2.2.2.2.2.1,r.1,()) else some (r.2.2.2.2.2.2.2.2.2.2.2.2.2.2.2.2.1,r.2.2.2.2.2.2.2.2.2.2.2.2.2.2.2.2.2.1,r.2.2.2.2.2.2.2.2.2.2.2.2.2.2.2.2.2.2.1,r.2.2.2.2.2.2.2.2.2.2.2.2.2.2.2.2.2.2.2.1,r.2.2.2.2.2.2.2.2.2.2.2.2.2.2.2.2.2.2.2.2.1,r.2.2.2.2.2.2.2.2.2.2.2.2.2.2.2.2.2.2.2.2.2.1,r.2.2.2.2.2.2.2.2.2.2.2.2.2.2.2.2.2.2.2.2.2.2.1,r.2.2.2.2.2.2.2.2.2.2.2.2.2.2.2.2.2.2.2.2.2.2.2.1,r.2.2.2.2.2.2.2.2.2.2.2.2.2.2.2.2.2.2.2.2.2.2.2.2.1,r.2.2.2.2.2.2.2.2.2.2.2.2.2.2.2.2.2.2.2.2.2.2.2.2.2.1,r.1,()) else some (r.2.2.2.2.2.2.2.2.2.2.2.2.2.2.2.2.1,r.2.2.2.2.2.2.2.2.2.2.2.2.2.2.2.2.2.1,r.2.2.2.2.2.2.2.2.2.2.2.2.2.2.2.2.2.2.1,r.2.2.2.2.2.2.2.2.2.2.2.2.2.2.2.2.2.2.2.1,r.2.2.2.2.2.2.2.2.2.2.2.2.2.2.2.2.2.2.2.2.1,r.2.2.2.2.2.2.2.2.2.2.2.2.2.2.2.2.2.2.2.2.2.1,r.2.2.2.2.2.2.2.2.2.2.2.2.2.2.2.2.2.2.2.2.2.2.1,r.2.2.2.2.2.2.2.2.2.2.2.2.2.2.2.2.2.2.2.2.2.2.2.1,r.2.2.2.2.2.2.2.2.2.2.2.2.2.2.2.2.2.2.2.2.2.2.2.2.1,r.2.2.2.2.2.2.2.2.2.2.2.2.2.2.2.2.2.2.2.2.2.2.2.2.2.1,r.1,()):=by kernel_rfl
theorem B32v1_0_eq (x0:ByteArray) (x1 x2:Int) (x3:List R6) (x4:ByteArray) (x5 x6 x7:Int) (x8 x9:ByteArray) (x10 x11 x12:Int) (x13:ByteArray):B32v1_0 (x0,x1,x2,x3,x4,x5,x6,x7,x8,x9,x10,x11,x12,x13,()) =
 bif decide (x2 < x1) then bif decide (ofNat 0 ≤ x2) && decide (x2 < ofNat (length x3)) then Option.bind x3[toNat x2]? fun y => bif bl y.1 == bl x0 then some (inr (inl (true,x3,y.1,y.2.1,y.2.2.1,y.2.2.2.1,y.2.2.2.2.1,y.2.2.2.2.2.1,y.2.2.2.2.2.2.1,y.2.2.2.2.2.2.2.1,y.2.2.2.2.2.2.2.2.1,y.2.2.2.2.2.2.2.2.2.1,()))) else some (inl (x0,x1,wrap .i64 (x2 + ofNat 1),x3,x4,x5,x6,x7,x8,x9,x10,x11,x12,x13,())) else none else some (inr (inr (x3,x4,x5,x6,x7,x8,x9,x10,x11,x12,x13,()))):=by kernel_rfl
theorem F32v1_eq (x0:ByteArray) (x1:List R6):F32v1 (x0,x1,()) =
 Option.bind (loop B32v1_0 (x0,ofNat (length x1),ofNat 0,x1,(lit []),ofNat 0,ofNat 0,ofNat 0,(lit []),(lit []),ofNat 0,ofNat 0,ofNat 0,(lit []),())) fun r => elim (fun p => some (p.2.2.1,p.2.2.2.1,p.2.2.2.2.1,p.2.2.2.2.2.1,p.2.2.2.2.2.2.1,p.2.2.2.2.2.2.2.1,p.2.2.2.2.2.2.2.2.1,p.2.2.2.2.2.2.2.2.2.1,p.2.2.2.2.2.2.2.2.2.2.1,p.2.2.2.2.2.2.2.2.2.2.2.1,p.1,p.2.1,())) (fun p => some ((lit []),ofNat 0,ofNat 0,ofNat 0,(lit []),(lit []),ofNat 0,ofNat 0,ofNat 0,(lit []),false,p.1,())) r:=by kernel_rfl
theorem F102_eq (x0 x1 x2:Int) (x3:ByteArray) (x4 x5:Bool) (x6 x7 x8:Int) (x9:ByteArray) (x10 x11:Bool):F102 (x0,x1,x2,x3,x4,x5,x6,x7,x8,x9,x10,x11,()) =
 bif x5 then Option.bind (F163 (x5,())) fun r => Option.bind (F163 (x11,())) fun r_1 => some (wrap .i64 (r.1 - r_1.1),()) else bif x11 then Option.bind (F163 (x5,())) fun r => Option.bind (F163 (x11,())) fun r_1 => some (wrap .i64 (r.1 - r_1.1),()) else Option.bind (F45 (x0,x1,x2,x3,x6,x7,x8,x9,())) fun r => Option.bind (F163 (x4,())) fun r_1 => Option.bind (F163 (x10,())) fun r_2 => Option.bind (F78 ([r.1,wrap .i64 (r_1.1 - r_2.1)],())) fun r => some (r.1,()):=by kernel_rfl
theorem F212_eq (x0 x1 x2:Int) (x3:ByteArray) (x4 x5:Bool) (x6 x7 x8:Int) (x9:ByteArray) (x10 x11:Bool) (x12 x13 x14:Int) (x15:ByteArray) (x16 x17:Bool) (x18 x19 x20:Int) (x21:ByteArray) (x22 x23:Bool):F212 (x0,x1,x2,x3,x4,x5,x6,x7,x8,x9,x10,x11,x12,x13,x14,x15,x16,x17,x18,x19,x20,x21,x22,x23,()) =
 Option.bind (F102 (x0,x1,x2,x3,x4,x5,x12,x13,x14,x15,x16,x17,())) fun r => some (r.1,()):=by kernel_rfl
theorem F66_eq (x0 x1:ByteArray):F66 (x0,x1,()) =
 some (xCompare x0 x1,()):=by kernel_rfl
theorem F36_eq (x0 x1:ByteArray):F36 (x0,x1,()) =
 Option.bind (F66 (x0,x1,())) fun r => some (r.1,()):=by kernel_rfl
theorem F35_eq (x0:ByteArray) (x1 x2 x3:Int) (x4 x5:ByteArray) (x6 x7 x8:Int) (x9 x10:ByteArray) (x11 x12 x13:Int) (x14 x15:ByteArray) (x16 x17 x18:Int) (x19:ByteArray):F35 (x0,x1,x2,x3,x4,x5,x6,x7,x8,x9,x10,x11,x12,x13,x14,x15,x16,x17,x18,x19,()) =
 Option.bind (F36 (x0,x10,())) fun r => some (r.1,()):=by kernel_rfl
theorem B114_0_eq (x0:Int) (x1:List R2) (x2:List R3) (x3:List ByteArray):B114_0 (x0,x1,x2,x3,()) =
 bif decide (x0 < ofNat (length x1)) then bif decide (ofNat 0 ≤ x0) then Option.bind x1[toNat x0]? fun y => bif decide (length x3 + length [y.1] ≤ 8796093022208) then some (inl (wrap .i64 (x0 + ofNat 1),x1,x2,x3 ++ [y.1],())) else none else none else some (inr (x3,())):=by kernel_rfl
theorem F114_eq (x0:List R2) (x1:List R3):F114 (x0,x1,()) =
 Option.bind (loop B114_0 (ofNat 0,x0,x1,[],())) fun r => some (r.1,()):=by kernel_rfl
theorem B170_0_eq (x0 x1:ByteArray) (x2 x3:Int) (x4:List R2) (x5:List R3) (x6 x7 x8:Int) (x9:ByteArray) (x10 x11 x12:Int) (x13:ByteArray):B170_0 (x0,x1,x2,x3,x4,x5,x6,x7,x8,x9,x10,x11,x12,x13,()) =
 bif decide (x3 < ofNat (length x5)) then bif decide (ofNat 0 ≤ x3) then Option.bind x5[toNat x3]? fun y => bif !bl y.1 == bl x0 then some (inl (x0,x1,x2,wrap .i64 (x3 + ofNat 1),x4,x5,x6,x7,x8,x9,x10,x11,x12,x13,())) else bif decide (ofNat (size x1) < ofNat 12) then some (inl (x0,x1,x2,wrap .i64 (x3 + ofNat 1),x4,x5,x6,x7,x8,x9,x10,x11,x12,x13,())) else bif decide (ofNat (size y.2.1) < ofNat (size x1)) then some (inl (x0,x1,x2,wrap .i64 (x3 + ofNat 1),x4,x5,x6,x7,x8,x9,x10,x11,x12,x13,())) else bif decide (ofNat 0 ≤ ofNat (size x1)) && decide (ofNat (size x1) ≤ ofNat (size y.2.1)) then bif !bl (ByteArray.extract y.2.1 0 (toNat (ofNat (size x1)))) == bl x1 then some (inl (x0,x1,x2,wrap .i64 (x3 + ofNat 1),x4,x5,x6,x7,x8,x9,x10,x11,x12,x13,())) else bif !y.2.2.1 then Option.bind (F57 (y.2.2.2.1,y.2.2.2.2.1,y.2.2.2.2.2.1,y.2.2.2.2.2.2.1,y.2.2.2.2.2.2.2.1,y.2.2.2.2.2.2.2.2.1,y.2.1,())) fun r => some (inl (x0,x1,wrap .i64 (x2 + ofNat 1),wrap .i64 (x3 + ofNat 1),x4,x5,x6,x7,x8,x9,r.1,r.2.1,r.2.2.1,r.2.2.2.1,())) else some (inl (x0,x1,wrap .i64 (x2 + ofNat 1),wrap .i64 (x3 + ofNat 1),x4,x5,x6,x7,x8,x9,y.2.2.2.2.1,y.2.2.2.2.2.1,y.2.2.2.2.2.2.1,y.2.2.2.2.2.2.2.1,())) else none else none else some (inr (x2,x6,x7,x8,x9,x10,x11,x12,x13,())):=by kernel_rfl
theorem F170_eq (x0:List R2) (x1:List R3) (x2 x3:ByteArray):F170 (x0,x1,x2,x3,()) =
 Option.bind (loop B170_0 (x2,x3,ofNat 0,ofNat 0,x0,x1,ofNat 0,ofNat 0,ofNat 0,(lit []),ofNat 0,ofNat 0,ofNat 0,(lit []),())) fun r => bif !r.1 == ofNat 1 then some (ofNat 0,ofNat 0,ofNat 0,(lit []),false,()) else some (r.2.2.2.2.2.1,r.2.2.2.2.2.2.1,r.2.2.2.2.2.2.2.1,r.2.2.2.2.2.2.2.2.1,true,()):=by kernel_rfl
theorem B172_0_eq (x0:List R1) (x1 x2 x3 x4:Int) (x5:ByteArray) (x6 x7 x8:Int) (x9 x10 x11:ByteArray):B172_0 (x0,x1,x2,x3,x4,x5,x6,x7,x8,x9,x10,x11,()) =
 bif decide (x1 < ofNat (length x0)) then bif decide (ofNat 0 ≤ x1) then Option.bind x0[toNat x1]? fun y => bif y.1 == x2 && (y.2.1 == x3 && (y.2.2.1 == x4 && bl y.2.2.2.1 == bl x5)) then bif decide (ofNat 0 ≤ x1) then Option.bind x0[toNat x1]? fun y => some (inr (inl (true,y.1,y.2.1,y.2.2.1,y.2.2.2.1,y.2.2.2.2.1,y.2.2.2.2.2.1,y.2.2.2.2.2.2.1,()))) else none else some (inl (x0,wrap .i64 (x1 + ofNat 1),x2,x3,x4,x5,x6,x7,x8,x9,x10,x11,())) else none else some (inr (inr (x6,x7,x8,x9,x10,x11,()))):=by kernel_rfl
theorem F172_eq (x0:List R2) (x1:List R3) (x2:ByteArray) (x3 x4 x5:Int) (x6:ByteArray):F172 (x0,x1,x2,x3,x4,x5,x6,()) =
 Option.bind (F216 (x0,x1,x2,())) fun r => bif decide (r.1 < ofNat 0) then some (ofNat 0,ofNat 0,ofNat 0,(lit []),[],(lit []),(lit []),false,()) else bif decide (ofNat 0 ≤ r.1) then Option.bind x0[toNat r.1]? fun y => Option.bind (loop B172_0 (y.2.1,ofNat 0,x3,x4,x5,x6,ofNat 0,ofNat 0,ofNat 0,(lit []),(lit []),(lit []),())) fun r => elim (fun p => some (p.2.1,p.2.2.1,p.2.2.2.1,p.2.2.2.2.1,p.2.2.2.2.2.1,p.2.2.2.2.2.2.1,p.2.2.2.2.2.2.2.1,p.1,())) (fun p => some (ofNat 0,ofNat 0,ofNat 0,(lit []),[],(lit []),(lit []),false,())) r else none:=by kernel_rfl
theorem F116_eq (x0:List R2) (x1:List R3) (x2 x3 x4 x5 x6 x7:ByteArray):F116 (x0,x1,x2,x3,x4,x5,x6,x7,()) =
 bif !bl x6 == [] then Option.bind (F169 (x3,())) fun r => bif !bl x4 == [] then Option.bind (F170 (x0,x1,x6,x4,())) fun r => bif !r.2.2.2.2.1 then some (ofNat 0,ofNat 0,ofNat 0,(lit []),false,()) else Option.bind (F171 (x7,r.1,r.2.1,r.2.2.1,r.2.2.2.1,())) fun r_1 => bif !r_1.1 then some (ofNat 0,ofNat 0,ofNat 0,(lit []),false,()) else Option.bind (F171 (x6,r.1,r.2.1,r.2.2.1,r.2.2.2.1,())) fun r_2 => bif !r_2.1 then some (ofNat 0,ofNat 0,ofNat 0,(lit []),false,()) else Option.bind (F172 (x0,x1,x6,r.1,r.2.1,r.2.2.1,r.2.2.2.1,())) fun r_3 => some (r.1,r.2.1,r.2.2.1,r.2.2.2.1,r_3.2.2.2.2.2.2.2.1,()) else bif !r.2.2.2.2.1 then some (ofNat 0,ofNat 0,ofNat 0,(lit []),false,()) else Option.bind (F171 (x7,r.1,r.2.1,r.2.2.1,r.2.2.2.1,())) fun r_1 => bif !r_1.1 then some (ofNat 0,ofNat 0,ofNat 0,(lit []),false,()) else Option.bind (F171 (x6,r.1,r.2.1,r.2.2.1,r.2.2.2.1,())) fun r_2 => bif !r_2.1 then some (ofNat 0,ofNat 0,ofNat 0,(lit []),false,()) else Option.bind (F172 (x0,x1,x6,r.1,r.2.1,r.2.2.1,r.2.2.2.1,())) fun r_3 => some (r.1,r.2.1,r.2.2.1,r.2.2.2.1,r_3.2.2.2.2.2.2.2.1,()) else Option.bind (F169 (x3,())) fun r => bif !bl x4 == [] then Option.bind (F170 (x0,x1,x7,x4,())) fun r => bif !r.2.2.2.2.1 then some (ofNat 0,ofNat 0,ofNat 0,(lit []),false,()) else Option.bind (F171 (x7,r.1,r.2.1,r.2.2.1,r.2.2.2.1,())) fun r_1 => bif !r_1.1 then some (ofNat 0,ofNat 0,ofNat 0,(lit []),false,()) else Option.bind (F171 (x7,r.1,r.2.1,r.2.2.1,r.2.2.2.1,())) fun r_2 => bif !r_2.1 then some (ofNat 0,ofNat 0,ofNat 0,(lit []),false,()) else Option.bind (F172 (x0,x1,x7,r.1,r.2.1,r.2.2.1,r.2.2.2.1,())) fun r_3 => some (r.1,r.2.1,r.2.2.1,r.2.2.2.1,r_3.2.2.2.2.2.2.2.1,()) else bif !r.2.2.2.2.1 then some (ofNat 0,ofNat 0,ofNat 0,(lit []),false,()) else Option.bind (F171 (x7,r.1,r.2.1,r.2.2.1,r.2.2.2.1,())) fun r_1 => bif !r_1.1 then some (ofNat 0,ofNat 0,ofNat 0,(lit []),false,()) else Option.bind (F171 (x7,r.1,r.2.1,r.2.2.1,r.2.2.2.1,())) fun r_2 => bif !r_2.1 then some (ofNat 0,ofNat 0,ofNat 0,(lit []),false,()) else Option.bind (F172 (x0,x1,x7,r.1,r.2.1,r.2.2.1,r.2.2.2.1,())) fun r_3 => some (r.1,r.2.1,r.2.2.1,r.2.2.2.1,r_3.2.2.2.2.2.2.2.1,()):=by kernel_rfl
theorem F173_eq (x0 x1:Int):F173 (x0,x1,()) =
 bif decide (x0 < x1) then some (Int.negSucc 0,()) else bif decide (x0 > x1) then some (ofNat 1,()) else some (ofNat 0,()):=by kernel_rfl
theorem F174_eq (x0 x1:ByteArray):F174 (x0,x1,()) =
 Option.bind (F192 (x0,())) fun r => Option.bind (F192 (x1,())) fun r_1 => bif r.1 then bif r_1.1 then bif !ofNat (size x0) == ofNat (size x1) then Option.bind (F173 (ofNat (size x0),ofNat (size x1),())) fun r => some (r.1,()) else bif !r.1 == r_1.1 then bif r.1 then some (Int.negSucc 0,()) else some (ofNat 1,()) else bif Op.bytesLess (bl x0) (bl x1) then some (Int.negSucc 0,()) else bif !(Op.bytesLess (bl x0) (bl x1) || bl x0 == bl x1) then some (ofNat 1,()) else some (ofNat 0,()) else bif !r.1 == r_1.1 then bif r.1 then some (Int.negSucc 0,()) else some (ofNat 1,()) else bif Op.bytesLess (bl x0) (bl x1) then some (Int.negSucc 0,()) else bif !(Op.bytesLess (bl x0) (bl x1) || bl x0 == bl x1) then some (ofNat 1,()) else some (ofNat 0,()) else bif !r.1 == r_1.1 then bif r.1 then some (Int.negSucc 0,()) else some (ofNat 1,()) else bif Op.bytesLess (bl x0) (bl x1) then some (Int.negSucc 0,()) else bif !(Op.bytesLess (bl x0) (bl x1) || bl x0 == bl x1) then some (ofNat 1,()) else some (ofNat 0,()):=by kernel_rfl
theorem B117_0_eq (x0 x1 x2 x3:Int) (x4:ByteArray) (x5 x6 x7:Int) (x8:ByteArray) (x9:List Int):B117_0 (x0,x1,x2,x3,x4,x5,x6,x7,x8,x9,()) =
 bif decide (x0 < ofNat 3) then bif decide (ofNat 0 ≤ x0) then Option.bind x9[toNat x0]? fun y => bif !y == ofNat 0 then bif decide (ofNat 0 ≤ x0) then Option.bind x9[toNat x0]? fun y => some (inr (inl (y,()))) else none else some (inl (wrap .i64 (x0 + ofNat 1),x1,x2,x3,x4,x5,x6,x7,x8,x9,())) else none else some (inr (inr (x1,x2,x3,x4,x5,x6,x7,x8,()))):=by kernel_rfl
theorem B117_1_eq (x0 x1:List ByteArray) (x2:Int):B117_1 (x0,x1,x2,()) =
 bif decide (x2 < ofNat (length x0)) then bif decide (x2 < ofNat (length x1)) then bif decide (ofNat 0 ≤ x2) then Option.bind x0[toNat x2]? fun y => bif decide (ofNat 0 ≤ x2) then Option.bind x1[toNat x2]? fun y_1 => Option.bind (F174 (y,y_1,())) fun r => bif !r.1 == ofNat 0 then some (inr (inl (r.1,()))) else some (inl (x0,x1,wrap .i64 (x2 + ofNat 1),())) else none else none else some (inr (inr (x0,x1,()))) else some (inr (inr (x0,x1,()))):=by kernel_rfl
theorem F117_eq (x0 x1 x2:Int) (x3:ByteArray) (x4 x5 x6:Int) (x7:ByteArray):F117 (x0,x1,x2,x3,x4,x5,x6,x7,()) =
 Option.bind (F173 (x0,x4,())) fun r => Option.bind (F173 (x1,x5,())) fun r_1 => Option.bind (F173 (x2,x6,())) fun r_2 => Option.bind (loop B117_0 (ofNat 0,x0,x1,x2,x3,x4,x5,x6,x7,[r.1,r_1.1,r_2.1],())) fun r => elim (fun p => some (p.1,())) (fun p => bif bl p.2.2.2.1 == [] then Option.bind (F173 (ofNat (size p.2.2.2.2.2.2.2.1),ofNat (size p.2.2.2.1),())) fun r => some (wrap .i64 (r.1 * bif decide (wrap .i64 (ofNat (size p.2.2.2.1) + ofNat (size p.2.2.2.2.2.2.2.1)) < ofNat 1) then wrap .i64 (ofNat (size p.2.2.2.1) + ofNat (size p.2.2.2.2.2.2.2.1)) else ofNat 1),()) else bif bl p.2.2.2.2.2.2.2.1 == [] then Option.bind (F173 (ofNat (size p.2.2.2.2.2.2.2.1),ofNat (size p.2.2.2.1),())) fun r => some (wrap .i64 (r.1 * bif decide (wrap .i64 (ofNat (size p.2.2.2.1) + ofNat (size p.2.2.2.2.2.2.2.1)) < ofNat 1) then wrap .i64 (ofNat (size p.2.2.2.1) + ofNat (size p.2.2.2.2.2.2.2.1)) else ofNat 1),()) else Option.bind (F142 (p.2.2.2.1,())) fun r => Option.bind (F142 (p.2.2.2.2.2.2.2.1,())) fun r_3 => Option.bind (loop B117_1 (r.1,r_3.1,ofNat 0,())) fun r => elim (fun p => some (p.1,())) (fun p => Option.bind (F173 (ofNat (length p.1),ofNat (length p.2.1),())) fun r => some (r.1,())) r) r:=by kernel_rfl
theorem B67_0_eq (x0:List ByteArray) (x1:Bool) (x2:ByteArray) (x3 x4:Int) (x5:List R2) (x6:List R3) (x7 x8 x9 x10 x11:ByteArray) (x12 x13 x14:Int) (x15:ByteArray) (x16 x17 x18:Int) (x19:ByteArray):B67_0 (x0,x1,x2,x3,x4,x5,x6,x7,x8,x9,x10,x11,x12,x13,x14,x15,x16,x17,x18,x19,()) =
 bif decide (x4 < ofNat (length x0)) then bif decide (ofNat 0 ≤ x4) then Option.bind x0[toNat x4]? fun y => Option.bind (F19 (y,())) fun r => Option.bind (F115 (x7,r.1,())) fun r_1 => bif !r_1.1 then some (inl (x0,x1,x2,x3,wrap .i64 (x4 + ofNat 1),x5,x6,x7,x8,x9,x10,x11,x12,x13,x14,x15,x16,x17,x18,x19,())) else bif decide (ofNat 0 ≤ x4) then Option.bind x0[toNat x4]? fun y => Option.bind (F116 (x5,x6,x7,x8,x9,x10,x11,y,())) fun r_2 => bif r_2.2.2.2.2.1 then bif decide (ofNat (size r.1) > x3) then bif decide (ofNat 0 ≤ x4) then Option.bind x0[toNat x4]? fun y => some (inl (x0,true,y,ofNat (size r.1),wrap .i64 (x4 + ofNat 1),x5,x6,x7,x8,x9,x10,x11,x12,x13,x14,x15,r_2.1,r_2.2.1,r_2.2.2.1,r_2.2.2.2.1,())) else none else bif ofNat (size r.1) == x3 then Option.bind (F117 (r_2.1,r_2.2.1,r_2.2.2.1,r_2.2.2.2.1,x16,x17,x18,x19,())) fun r_3 => bif decide (r_3.1 > ofNat 0) then bif decide (ofNat 0 ≤ x4) then Option.bind x0[toNat x4]? fun y => some (inl (x0,true,y,ofNat (size r.1),wrap .i64 (x4 + ofNat 1),x5,x6,x7,x8,x9,x10,x11,x12,x13,x14,x15,r_2.1,r_2.2.1,r_2.2.2.1,r_2.2.2.2.1,())) else none else some (inl (x0,true,x2,x3,wrap .i64 (x4 + ofNat 1),x5,x6,x7,x8,x9,x10,x11,x12,x13,x14,x15,x16,x17,x18,x19,())) else some (inl (x0,true,x2,x3,wrap .i64 (x4 + ofNat 1),x5,x6,x7,x8,x9,x10,x11,x12,x13,x14,x15,x16,x17,x18,x19,())) else some (inl (x0,true,x2,x3,wrap .i64 (x4 + ofNat 1),x5,x6,x7,x8,x9,x10,x11,x12,x13,x14,x15,x16,x17,x18,x19,())) else none else none else some (inr (x1,x2,x3,x12,x13,x14,x15,x16,x17,x18,x19,())):=by kernel_rfl
theorem F67_eq (x0:List R2) (x1:List R3) (x2 x3 x4 x5 x6:ByteArray):F67 (x0,x1,x2,x3,x4,x5,x6,()) =
 Option.bind (F114 (x0,x1,())) fun r => Option.bind (loop B67_0 (r.1,false,(lit []),Int.negSucc 0,ofNat 0,x0,x1,x2,x3,x4,x5,x6,ofNat 0,ofNat 0,ofNat 0,(lit []),ofNat 0,ofNat 0,ofNat 0,(lit []),())) fun r => bif !r.1 then some ((lit []),r.2.2.2.2.2.2.2.1,r.2.2.2.2.2.2.2.2.1,r.2.2.2.2.2.2.2.2.2.1,r.2.2.2.2.2.2.2.2.2.2.1,ofNat 8,()) else bif decide (r.2.2.1 < ofNat 0) then some ((lit []),r.2.2.2.2.2.2.2.1,r.2.2.2.2.2.2.2.2.1,r.2.2.2.2.2.2.2.2.2.1,r.2.2.2.2.2.2.2.2.2.2.1,ofNat 9,()) else some (r.2.1,r.2.2.2.2.2.2.2.1,r.2.2.2.2.2.2.2.2.1,r.2.2.2.2.2.2.2.2.2.1,r.2.2.2.2.2.2.2.2.2.2.1,ofNat 0,()):=by kernel_rfl
theorem F68_eq (x0:Int) (x1 x2:ByteArray) (x3 x4 x5:Int) (x6:ByteArray) (x7 x8 x9:Int) (x10:ByteArray):F68 (x0,x1,x2,x3,x4,x5,x6,x7,x8,x9,x10,()) =
 some (x0,x1,x2,x3,x4,x5,x6,x7,x8,x9,x10,()):=by kernel_rfl
theorem B39_0_eq (x0:List R6) (x1:ByteArray) (x2:Int) (x3 x4 x5 x6 x7 x8:ByteArray) (x9 x10 x11:Int) (x12 x13:ByteArray) (x14 x15 x16:Int) (x17:ByteArray) (x18:Int) (x19 x20:ByteArray) (x21 x22 x23:Int) (x24:ByteArray) (x25 x26 x27:Int) (x28:ByteArray) (x29 x30 x31:Int) (x32 x33:ByteArray) (x34 x35 x36:Int) (x37 x38:ByteArray) (x39 x40 x41:Int) (x42:ByteArray):B39_0 (x0,x1,x2,x3,x4,x5,x6,x7,x8,x9,x10,x11,x12,x13,x14,x15,x16,x17,x18,x19,x20,x21,x22,x23,x24,x25,x26,x27,x28,x29,x30,x31,x32,x33,x34,x35,x36,x37,x38,x39,x40,x41,x42,()) =
 bif decide (x2 < ofNat (length x0)) then bif decide (ofNat 0 ≤ x2) then Option.bind x0[toNat x2]? fun y => bif bl y.1 == bl x1 then bif decide (ofNat 0 ≤ x2) then Option.bind x0[toNat x2]? fun y => bif !(bl y.1 == bl x33 && (y.2.1 == x34 && (y.2.2.1 == x35 && (y.2.2.2.1 == x36 && bl y.2.2.2.2.1 == bl x37)) && (bl y.2.2.2.2.2.1 == bl x38 && (y.2.2.2.2.2.2.1 == x39 && (y.2.2.2.2.2.2.2.1 == x40 && (y.2.2.2.2.2.2.2.2.1 == x41 && bl y.2.2.2.2.2.2.2.2.2.1 == bl x42)))))) then bif decide (ofNat 0 ≤ x2) then Option.bind x0[toNat x2]? fun y => Option.bind (F68 (ofNat 11,x3,x1,x29,x30,x31,x32,y.2.1,y.2.2.1,y.2.2.2.1,y.2.2.2.2.1,())) fun r => some (inr (inl ((lit []),ofNat 0,ofNat 0,ofNat 0,(lit []),(lit []),ofNat 0,ofNat 0,ofNat 0,(lit []),r.1,r.2.1,r.2.2.1,r.2.2.2.1,r.2.2.2.2.1,r.2.2.2.2.2.1,r.2.2.2.2.2.2.1,r.2.2.2.2.2.2.2.1,r.2.2.2.2.2.2.2.2.1,r.2.2.2.2.2.2.2.2.2.1,r.2.2.2.2.2.2.2.2.2.2.1,()))) else none else some (inl (x0,x1,wrap .i64 (x2 + ofNat 1),x3,x4,x5,x6,x7,x8,x9,x10,x11,x12,x13,x14,x15,x16,x17,x18,x19,x20,x21,x22,x23,x24,x25,x26,x27,x28,x29,x30,x31,x32,x33,x34,x35,x36,x37,x38,x39,x40,x41,x42,())) else none else some (inl (x0,x1,wrap .i64 (x2 + ofNat 1),x3,x4,x5,x6,x7,x8,x9,x10,x11,x12,x13,x14,x15,x16,x17,x18,x19,x20,x21,x22,x23,x24,x25,x26,x27,x28,x29,x30,x31,x32,x33,x34,x35,x36,x37,x38,x39,x40,x41,x42,())) else none else some (inr (inr (x8,x9,x10,x11,x12,x13,x14,x15,x16,x17,x18,x19,x20,x21,x22,x23,x24,x25,x26,x27,x28,x33,x34,x35,x36,x37,x38,x39,x40,x41,x42,()))):=by kernel_rfl
theorem F39_eq (x0:List R2) (x1:List R3) (x2 x3 x4 x5 x6 x7:ByteArray) (x8:List R6):F39 (x0,x1,x2,x3,x4,x5,x6,x7,x8,()) =
 Option.bind (F67 (x0,x1,x3,x4,x5,x6,x7,())) fun r => bif !r.2.2.2.2.2.1 == ofNat 0 then Option.bind (F68 (r.2.2.2.2.2.1,x3,(lit []),ofNat 0,ofNat 0,ofNat 0,(lit []),ofNat 0,ofNat 0,ofNat 0,(lit []),())) fun r => some ((lit []),ofNat 0,ofNat 0,ofNat 0,(lit []),(lit []),ofNat 0,ofNat 0,ofNat 0,(lit []),r.1,r.2.1,r.2.2.1,r.2.2.2.1,r.2.2.2.2.1,r.2.2.2.2.2.1,r.2.2.2.2.2.2.1,r.2.2.2.2.2.2.2.1,r.2.2.2.2.2.2.2.2.1,r.2.2.2.2.2.2.2.2.2.1,r.2.2.2.2.2.2.2.2.2.2.1,()) else bif !bl x6 == [] then Option.bind (F69 (x6,())) fun r_1 => bif !r_1.2.2.1 == ofNat 0 then Option.bind (F68 (ofNat 10,x3,r.1,r.2.1,r.2.2.1,r.2.2.2.1,r.2.2.2.2.1,ofNat 0,ofNat 0,ofNat 0,(lit []),())) fun r => some ((lit []),ofNat 0,ofNat 0,ofNat 0,(lit []),(lit []),ofNat 0,ofNat 0,ofNat 0,(lit []),r.1,r.2.1,r.2.2.1,r.2.2.2.1,r.2.2.2.2.1,r.2.2.2.2.2.1,r.2.2.2.2.2.2.1,r.2.2.2.2.2.2.2.1,r.2.2.2.2.2.2.2.2.1,r.2.2.2.2.2.2.2.2.2.1,r.2.2.2.2.2.2.2.2.2.2.1,()) else Option.bind (F70 (r_1.1,r.2.1,r.2.2.1,r.2.2.2.1,r.2.2.2.2.1,())) fun r_2 => bif !r_2.1 then Option.bind (F68 (ofNat 10,x3,r.1,r.2.1,r.2.2.1,r.2.2.2.1,r.2.2.2.2.1,ofNat 0,ofNat 0,ofNat 0,(lit []),())) fun r => some ((lit []),ofNat 0,ofNat 0,ofNat 0,(lit []),(lit []),ofNat 0,ofNat 0,ofNat 0,(lit []),r.1,r.2.1,r.2.2.1,r.2.2.2.1,r.2.2.2.2.1,r.2.2.2.2.2.1,r.2.2.2.2.2.2.1,r.2.2.2.2.2.2.2.1,r.2.2.2.2.2.2.2.2.1,r.2.2.2.2.2.2.2.2.2.1,r.2.2.2.2.2.2.2.2.2.2.1,()) else bif bl r.1 == bl x2 then Option.bind (F68 (ofNat 11,x3,r.1,r.2.1,r.2.2.1,r.2.2.2.1,r.2.2.2.2.1,ofNat 0,ofNat 0,ofNat 0,(lit []),())) fun r => some ((lit []),ofNat 0,ofNat 0,ofNat 0,(lit []),(lit []),ofNat 0,ofNat 0,ofNat 0,(lit []),r.1,r.2.1,r.2.2.1,r.2.2.2.1,r.2.2.2.2.1,r.2.2.2.2.2.1,r.2.2.2.2.2.2.1,r.2.2.2.2.2.2.2.1,r.2.2.2.2.2.2.2.2.1,r.2.2.2.2.2.2.2.2.2.1,r.2.2.2.2.2.2.2.2.2.2.1,()) else bif !bl x7 == [] then Option.bind (loop B39_0 (x8,r.1,ofNat 0,x3,x4,x5,x6,x7,(lit []),ofNat 0,ofNat 0,ofNat 0,(lit []),(lit []),ofNat 0,ofNat 0,ofNat 0,(lit []),ofNat 0,(lit []),(lit []),ofNat 0,ofNat 0,ofNat 0,(lit []),ofNat 0,ofNat 0,ofNat 0,(lit []),r.2.1,r.2.2.1,r.2.2.2.1,r.2.2.2.2.1,r.1,r.2.1,r.2.2.1,r.2.2.2.1,r.2.2.2.2.1,x7,r.2.1,r.2.2.1,r.2.2.2.1,r.2.2.2.2.1,())) fun r => elim (fun p => some (p.1,p.2.1,p.2.2.1,p.2.2.2.1,p.2.2.2.2.1,p.2.2.2.2.2.1,p.2.2.2.2.2.2.1,p.2.2.2.2.2.2.2.1,p.2.2.2.2.2.2.2.2.1,p.2.2.2.2.2.2.2.2.2.1,p.2.2.2.2.2.2.2.2.2.2.1,p.2.2.2.2.2.2.2.2.2.2.2.1,p.2.2.2.2.2.2.2.2.2.2.2.2.1,p.2.2.2.2.2.2.2.2.2.2.2.2.2.1,p.2.2.2.2.2.2.2.2.2.2.2.2.2.2.1,p.2.2.2.2.2.2.2.2.2.2.2.2.2.2.2.1,p.2.2.2.2.2.2.2.2.2.2.2.2.2.2.2.2.1,p.2.2.2.2.2.2.2.2.2.2.2.2.2.2.2.2.2.1,p.2.2.2.2.2.2.2.2.2.2.2.2.2.2.2.2.2.2.1,p.2.2.2.2.2.2.2.2.2.2.2.2.2.2.2.2.2.2.2.1,p.2.2.2.2.2.2.2.2.2.2.2.2.2.2.2.2.2.2.2.2.1,())) (fun p => some (p.2.2.2.2.2.2.2.2.2.2.2.2.2.2.2.2.2.2.2.2.2.1,p.2.2.2.2.2.2.2.2.2.2.2.2.2.2.2.2.2.2.2.2.2.2.1,p.2.2.2.2.2.2.2.2.2.2.2.2.2.2.2.2.2.2.2.2.2.2.2.1,p.2.2.2.2.2.2.2.2.2.2.2.2.2.2.2.2.2.2.2.2.2.2.2.2.1,p.2.2.2.2.2.2.2.2.2.2.2.2.2.2.2.2.2.2.2.2.2.2.2.2.2.1,p.2.2.2.2.2.2.2.2.2.2.2.2.2.2.2.2.2.2.2.2.2.2.2.2.2.2.1,p.2.2.2.2.2.2.2.2.2.2.2.2.2.2.2.2.2.2.2.2.2.2.2.2.2.2.2.1,p.2.2.2.2.2.2.2.2.2.2.2.2.2.2.2.2.2.2.2.2.2.2.2.2.2.2.2.2.1,p.2.2.2.2.2.2.2.2.2.2.2.2.2.2.2.2.2.2.2.2.2.2.2.2.2.2.2.2.2.1,p.2.2.2.2.2.2.2.2.2.2.2.2.2.2.2.2.2.2.2.2.2.2.2.2.2.2.2.2.2.2.1,ofNat 0,(lit []),(lit []),ofNat 0,ofNat 0,ofNat 0,(lit []),ofNat 0,ofNat 0,ofNat 0,(lit []),())) r else Option.bind (loop B39_0 (x8,r.1,ofNat 0,x3,x4,x5,x6,x7,(lit []),ofNat 0,ofNat 0,ofNat 0,(lit []),(lit []),ofNat 0,ofNat 0,ofNat 0,(lit []),ofNat 0,(lit []),(lit []),ofNat 0,ofNat 0,ofNat 0,(lit []),ofNat 0,ofNat 0,ofNat 0,(lit []),r.2.1,r.2.2.1,r.2.2.2.1,r.2.2.2.2.1,r.1,r.2.1,r.2.2.1,r.2.2.2.1,r.2.2.2.2.1,(lit []),ofNat 0,ofNat 0,ofNat 0,(lit []),())) fun r => elim (fun p => some (p.1,p.2.1,p.2.2.1,p.2.2.2.1,p.2.2.2.2.1,p.2.2.2.2.2.1,p.2.2.2.2.2.2.1,p.2.2.2.2.2.2.2.1,p.2.2.2.2.2.2.2.2.1,p.2.2.2.2.2.2.2.2.2.1,p.2.2.2.2.2.2.2.2.2.2.1,p.2.2.2.2.2.2.2.2.2.2.2.1,p.2.2.2.2.2.2.2.2.2.2.2.2.1,p.2.2.2.2.2.2.2.2.2.2.2.2.2.1,p.2.2.2.2.2.2.2.2.2.2.2.2.2.2.1,p.2.2.2.2.2.2.2.2.2.2.2.2.2.2.2.1,p.2.2.2.2.2.2.2.2.2.2.2.2.2.2.2.2.1,p.2.2.2.2.2.2.2.2.2.2.2.2.2.2.2.2.2.1,p.2.2.2.2.2.2.2.2.2.2.2.2.2.2.2.2.2.2.1,p.2.2.2.2.2.2.2.2.2.2.2.2.2.2.2.2.2.2.2.1,p.2.2.2.2.2.2.2.2.2.2.2.2.2.2.2.2.2.2.2.2.1,())) (fun p => some (p.2.2.2.2.2.2.2.2.2.2.2.2.2.2.2.2.2.2.2.2.2.1,p.2.2.2.2.2.2.2.2.2.2.2.2.2.2.2.2.2.2.2.2.2.2.1,p.2.2.2.2.2.2.2.2.2.2.2.2.2.2.2.2.2.2.2.2.2.2.2.1,p.2.2.2.2.2.2.2.2.2.2.2.2.2.2.2.2.2.2.2.2.2.2.2.2.1,p.2.2.2.2.2.2.2.2.2.2.2.2.2.2.2.2.2.2.2.2.2.2.2.2.2.1,p.2.2.2.2.2.2.2.2.2.2.2.2.2.2.2.2.2.2.2.2.2.2.2.2.2.2.1,p.2.2.2.2.2.2.2.2.2.2.2.2.2.2.2.2.2.2.2.2.2.2.2.2.2.2.2.1,p.2.2.2.2.2.2.2.2.2.2.2.2.2.2.2.2.2.2.2.2.2.2.2.2.2.2.2.2.1,p.2.2.2.2.2.2.2.2.2.2.2.2.2.2.2.2.2.2.2.2.2.2.2.2.2.2.2.2.2.1,p.2.2.2.2.2.2.2.2.2.2.2.2.2.2.2.2.2.2.2.2.2.2.2.2.2.2.2.2.2.2.1,ofNat 0,(lit []),(lit []),ofNat 0,ofNat 0,ofNat 0,(lit []),ofNat 0,ofNat 0,ofNat 0,(lit []),())) r else bif bl r.1 == bl x2 then Option.bind (F68 (ofNat 11,x3,r.1,r.2.1,r.2.2.1,r.2.2.2.1,r.2.2.2.2.1,ofNat 0,ofNat 0,ofNat 0,(lit []),())) fun r => some ((lit []),ofNat 0,ofNat 0,ofNat 0,(lit []),(lit []),ofNat 0,ofNat 0,ofNat 0,(lit []),r.1,r.2.1,r.2.2.1,r.2.2.2.1,r.2.2.2.2.1,r.2.2.2.2.2.1,r.2.2.2.2.2.2.1,r.2.2.2.2.2.2.2.1,r.2.2.2.2.2.2.2.2.1,r.2.2.2.2.2.2.2.2.2.1,r.2.2.2.2.2.2.2.2.2.2.1,()) else bif !bl x7 == [] then Option.bind (loop B39_0 (x8,r.1,ofNat 0,x3,x4,x5,x6,x7,(lit []),ofNat 0,ofNat 0,ofNat 0,(lit []),(lit []),ofNat 0,ofNat 0,ofNat 0,(lit []),ofNat 0,(lit []),(lit []),ofNat 0,ofNat 0,ofNat 0,(lit []),ofNat 0,ofNat 0,ofNat 0,(lit []),r.2.1,r.2.2.1,r.2.2.2.1,r.2.2.2.2.1,r.1,r.2.1,r.2.2.1,r.2.2.2.1,r.2.2.2.2.1,x7,r.2.1,r.2.2.1,r.2.2.2.1,r.2.2.2.2.1,())) fun r => elim (fun p => some (p.1,p.2.1,p.2.2.1,p.2.2.2.1,p.2.2.2.2.1,p.2.2.2.2.2.1,p.2.2.2.2.2.2.1,p.2.2.2.2.2.2.2.1,p.2.2.2.2.2.2.2.2.1,p.2.2.2.2.2.2.2.2.2.1,p.2.2.2.2.2.2.2.2.2.2.1,p.2.2.2.2.2.2.2.2.2.2.2.1,p.2.2.2.2.2.2.2.2.2.2.2.2.1,p.2.2.2.2.2.2.2.2.2.2.2.2.2.1,p.2.2.2.2.2.2.2.2.2.2.2.2.2.2.1,p.2.2.2.2.2.2.2.2.2.2.2.2.2.2.2.1,p.2.2.2.2.2.2.2.2.2.2.2.2.2.2.2.2.1,p.2.2.2.2.2.2.2.2.2.2.2.2.2.2.2.2.2.1,p.2.2.2.2.2.2.2.2.2.2.2.2.2.2.2.2.2.2.1,p.2.2.2.2.2.2.2.2.2.2.2.2.2.2.2.2.2.2.2.1,p.2.2.2.2.2.2.2.2.2.2.2.2.2.2.2.2.2.2.2.2.1,())) (fun p => some (p.2.2.2.2.2.2.2.2.2.2.2.2.2.2.2.2.2.2.2.2.2.1,p.2.2.2.2.2.2.2.2.2.2.2.2.2.2.2.2.2.2.2.2.2.2.1,p.2.2.2.2.2.2.2.2.2.2.2.2.2.2.2.2.2.2.2.2.2.2.2.1,p.2.2.2.2.2.2.2.2.2.2.2.2.2.2.2.2.2.2.2.2.2.2.2.2.1,p.2.2.2.2.2.2.2.2.2.2.2.2.2.2.2.2.2.2.2.2.2.2.2.2.2.1,p.2.2.2.2.2.2.2.2.2.2.2.2.2.2.2.2.2.2.2.2.2.2.2.2.2.2.1,p.2.2.2.2.2.2.2.2.2.2.2.2.2.2.2.2.2.2.2.2.2.2.2.2.2.2.2.1,p.2.2.2.2.2.2.2.2.2.2.2.2.2.2.2.2.2.2.2.2.2.2.2.2.2.2.2.2.1,p.2.2.2.2.2.2.2.2.2.2.2.2.2.2.2.2.2.2.2.2.2.2.2.2.2.2.2.2.2.1,p.2.2.2.2.2.2.2.2.2.2.2.2.2.2.2.2.2.2.2.2.2.2.2.2.2.2.2.2.2.2.1,ofNat 0,(lit []),(lit []),ofNat 0,ofNat 0,ofNat 0,(lit []),ofNat 0,ofNat 0,ofNat 0,(lit []),())) r else Option.bind (loop B39_0 (x8,r.1,ofNat 0,x3,x4,x5,x6,x7,(lit []),ofNat 0,ofNat 0,ofNat 0,(lit []),(lit []),ofNat 0,ofNat 0,ofNat 0,(lit []),ofNat 0,(lit []),(lit []),ofNat 0,ofNat 0,ofNat 0,(lit []),ofNat 0,ofNat 0,ofNat 0,(lit []),r.2.1,r.2.2.1,r.2.2.2.1,r.2.2.2.2.1,r.1,r.2.1,r.2.2.1,r.2.2.2.1,r.2.2.2.2.1,(lit []),ofNat 0,ofNat 0,ofNat 0,(lit []),())) fun r => elim (fun p => some (p.1,p.2.1,p.2.2.1,p.2.2.2.1,p.2.2.2.2.1,p.2.2.2.2.2.1,p.2.2.2.2.2.2.1,p.2.2.2.2.2.2.2.1,p.2.2.2.2.2.2.2.2.1,p.2.2.2.2.2.2.2.2.2.1,p.2.2.2.2.2.2.2.2.2.2.1,p.2.2.2.2.2.2.2.2.2.2.2.1,p.2.2.2.2.2.2.2.2.2.2.2.2.1,p.2.2.2.2.2.2.2.2.2.2.2.2.2.1,p.2.2.2.2.2.2.2.2.2.2.2.2.2.2.1,p.2.2.2.2.2.2.2.2.2.2.2.2.2.2.2.1,p.2.2.2.2.2.2.2.2.2.2.2.2.2.2.2.2.1,p.2.2.2.2.2.2.2.2.2.2.2.2.2.2.2.2.2.1,p.2.2.2.2.2.2.2.2.2.2.2.2.2.2.2.2.2.2.1,p.2.2.2.2.2.2.2.2.2.2.2.2.2.2.2.2.2.2.2.1,p.2.2.2.2.2.2.2.2.2.2.2.2.2.2.2.2.2.2.2.2.1,())) (fun p => some (p.2.2.2.2.2.2.2.2.2.2.2.2.2.2.2.2.2.2.2.2.2.1,p.2.2.2.2.2.2.2.2.2.2.2.2.2.2.2.2.2.2.2.2.2.2.1,p.2.2.2.2.2.2.2.2.2.2.2.2.2.2.2.2.2.2.2.2.2.2.2.1,p.2.2.2.2.2.2.2.2.2.2.2.2.2.2.2.2.2.2.2.2.2.2.2.2.1,p.2.2.2.2.2.2.2.2.2.2.2.2.2.2.2.2.2.2.2.2.2.2.2.2.2.1,p.2.2.2.2.2.2.2.2.2.2.2.2.2.2.2.2.2.2.2.2.2.2.2.2.2.2.1,p.2.2.2.2.2.2.2.2.2.2.2.2.2.2.2.2.2.2.2.2.2.2.2.2.2.2.2.1,p.2.2.2.2.2.2.2.2.2.2.2.2.2.2.2.2.2.2.2.2.2.2.2.2.2.2.2.2.1,p.2.2.2.2.2.2.2.2.2.2.2.2.2.2.2.2.2.2.2.2.2.2.2.2.2.2.2.2.2.1,p.2.2.2.2.2.2.2.2.2.2.2.2.2.2.2.2.2.2.2.2.2.2.2.2.2.2.2.2.2.2.1,ofNat 0,(lit []),(lit []),ofNat 0,ofNat 0,ofNat 0,(lit []),ofNat 0,ofNat 0,ofNat 0,(lit []),())) r:=by kernel_rfl
theorem B14_0_eq (x0:ByteArray) (x1:List R7) (x2 x3:Int) (x4:List R2) (x5:List R3) (x6:List R6) (x7:List R10) (x8:ByteArray) (x9 x10 x11:Int) (x12 x13:ByteArray) (x14 x15 x16:Int) (x17:ByteArray):B14_0 (x0,x1,x2,x3,x4,x5,x6,x7,x8,x9,x10,x11,x12,x13,x14,x15,x16,x17,()) =
 bif decide (x3 > ofNat 0) then bif decide (ofNat 0 ≤ wrap .i64 (x3 - ofNat 1)) then Option.bind x6[toNat (wrap .i64 (x3 - ofNat 1))]? fun y => bif Op.bytesLess (bl x8) (bl y.1) then some (inl (x0,x1,x2,wrap .i64 (x3 - ofNat 1),x4,x5,x6,x7,x8,x9,x10,x11,x12,x13,x14,x15,x16,x17,())) else some (inr (x0,x1,x2,x3,x4,x5,x6,x7,x8,x9,x10,x11,x12,x13,x14,x15,x16,x17,())) else none else some (inr (x0,x1,x2,x3,x4,x5,x6,x7,x8,x9,x10,x11,x12,x13,x14,x15,x16,x17,())):=by kernel_rfl
theorem B14_1_eq (x0:ByteArray) (x1:List R7) (x2:Int) (x3:List R2) (x4:List R3) (x5:List R6) (x6:List R10):B14_1 (x0,x1,x2,x3,x4,x5,x6,()) =
 bif decide (x2 < ofNat (length x1)) then bif decide (ofNat 0 ≤ x2) then Option.bind x1[toNat x2]? fun y => Option.bind (F39 (x3,x4,x0,y.1,y.2.1,y.2.2.1,y.2.2.2.1,y.2.2.2.2.1,x5,())) fun r => bif !r.2.2.2.2.2.2.2.2.2.2.1 == ofNat 0 then bif decide (length x6 + length [(r.2.2.2.2.2.2.2.2.2.2.1,r.2.2.2.2.2.2.2.2.2.2.2.1,r.2.2.2.2.2.2.2.2.2.2.2.2.1,r.2.2.2.2.2.2.2.2.2.2.2.2.2.1,r.2.2.2.2.2.2.2.2.2.2.2.2.2.2.1,r.2.2.2.2.2.2.2.2.2.2.2.2.2.2.2.1,r.2.2.2.2.2.2.2.2.2.2.2.2.2.2.2.2.1,r.2.2.2.2.2.2.2.2.2.2.2.2.2.2.2.2.2.1,r.2.2.2.2.2.2.2.2.2.2.2.2.2.2.2.2.2.2.1,r.2.2.2.2.2.2.2.2.2.2.2.2.2.2.2.2.2.2.2.1,r.2.2.2.2.2.2.2.2.2.2.2.2.2.2.2.2.2.2.2.2.1,())] ≤ 1172812402961) then some (inl (x0,x1,wrap .i64 (x2 + ofNat 1),x3,x4,x5,x6 ++ [(r.2.2.2.2.2.2.2.2.2.2.1,r.2.2.2.2.2.2.2.2.2.2.2.1,r.2.2.2.2.2.2.2.2.2.2.2.2.1,r.2.2.2.2.2.2.2.2.2.2.2.2.2.1,r.2.2.2.2.2.2.2.2.2.2.2.2.2.2.1,r.2.2.2.2.2.2.2.2.2.2.2.2.2.2.2.1,r.2.2.2.2.2.2.2.2.2.2.2.2.2.2.2.2.1,r.2.2.2.2.2.2.2.2.2.2.2.2.2.2.2.2.2.1,r.2.2.2.2.2.2.2.2.2.2.2.2.2.2.2.2.2.2.1,r.2.2.2.2.2.2.2.2.2.2.2.2.2.2.2.2.2.2.2.1,r.2.2.2.2.2.2.2.2.2.2.2.2.2.2.2.2.2.2.2.2.1,())],())) else none else Option.bind (loop B14_0 (x0,x1,x2,ofNat (length x5),x3,x4,x5,x6,r.1,r.2.1,r.2.2.1,r.2.2.2.1,r.2.2.2.2.1,r.2.2.2.2.2.1,r.2.2.2.2.2.2.1,r.2.2.2.2.2.2.2.1,r.2.2.2.2.2.2.2.2.1,r.2.2.2.2.2.2.2.2.2.1,())) fun r => bif r.2.2.2.1 == ofNat 0 then bif decide (ofNat 0 ≤ r.2.2.2.1) && decide (r.2.2.2.1 ≤ ofNat (length r.2.2.2.2.2.2.1)) then bif decide (0 + length (List.drop 0 (List.take (toNat r.2.2.2.1) r.2.2.2.2.2.2.1)) ≤ 1256584717458) then bif decide (length ([] ++ List.drop 0 (List.take (toNat r.2.2.2.1) r.2.2.2.2.2.2.1)) + length [(r.2.2.2.2.2.2.2.2.1,r.2.2.2.2.2.2.2.2.2.1,r.2.2.2.2.2.2.2.2.2.2.1,r.2.2.2.2.2.2.2.2.2.2.2.1,r.2.2.2.2.2.2.2.2.2.2.2.2.1,r.2.2.2.2.2.2.2.2.2.2.2.2.2.1,r.2.2.2.2.2.2.2.2.2.2.2.2.2.2.1,r.2.2.2.2.2.2.2.2.2.2.2.2.2.2.2.1,r.2.2.2.2.2.2.2.2.2.2.2.2.2.2.2.2.1,r.2.2.2.2.2.2.2.2.2.2.2.2.2.2.2.2.2.1,())] ≤ 1256584717458) then bif decide (ofNat 0 ≤ r.2.2.2.1) && (decide (r.2.2.2.1 ≤ ofNat (length r.2.2.2.2.2.2.1)) && decide (ofNat (length r.2.2.2.2.2.2.1) ≤ ofNat (length r.2.2.2.2.2.2.1))) then bif decide (length ([] ++ List.drop 0 (List.take (toNat r.2.2.2.1) r.2.2.2.2.2.2.1) ++ [(r.2.2.2.2.2.2.2.2.1,r.2.2.2.2.2.2.2.2.2.1,r.2.2.2.2.2.2.2.2.2.2.1,r.2.2.2.2.2.2.2.2.2.2.2.1,r.2.2.2.2.2.2.2.2.2.2.2.2.1,r.2.2.2.2.2.2.2.2.2.2.2.2.2.1,r.2.2.2.2.2.2.2.2.2.2.2.2.2.2.1,r.2.2.2.2.2.2.2.2.2.2.2.2.2.2.2.1,r.2.2.2.2.2.2.2.2.2.2.2.2.2.2.2.2.1,r.2.2.2.2.2.2.2.2.2.2.2.2.2.2.2.2.2.1,())]) + length (List.drop (toNat r.2.2.2.1) (List.take (toNat (ofNat (length r.2.2.2.2.2.2.1))) r.2.2.2.2.2.2.1)) ≤ 1256584717458) then some (inl (r.1,r.2.1,wrap .i64 (r.2.2.1 + ofNat 1),r.2.2.2.2.1,r.2.2.2.2.2.1,[] ++ List.drop 0 (List.take (toNat r.2.2.2.1) r.2.2.2.2.2.2.1) ++ [(r.2.2.2.2.2.2.2.2.1,r.2.2.2.2.2.2.2.2.2.1,r.2.2.2.2.2.2.2.2.2.2.1,r.2.2.2.2.2.2.2.2.2.2.2.1,r.2.2.2.2.2.2.2.2.2.2.2.2.1,r.2.2.2.2.2.2.2.2.2.2.2.2.2.1,r.2.2.2.2.2.2.2.2.2.2.2.2.2.2.1,r.2.2.2.2.2.2.2.2.2.2.2.2.2.2.2.1,r.2.2.2.2.2.2.2.2.2.2.2.2.2.2.2.2.1,r.2.2.2.2.2.2.2.2.2.2.2.2.2.2.2.2.2.1,())] ++ List.drop (toNat r.2.2.2.1) (List.take (toNat (ofNat (length r.2.2.2.2.2.2.1))) r.2.2.2.2.2.2.1),r.2.2.2.2.2.2.2.1,())) else none else none else none else none else none else bif decide (ofNat 0 ≤ wrap .i64 (r.2.2.2.1 - ofNat 1)) then Option.bind r.2.2.2.2.2.2.1[toNat (wrap .i64 (r.2.2.2.1 - ofNat 1))]? fun y => bif !bl y.1 == bl r.2.2.2.2.2.2.2.2.1 then bif decide (ofNat 0 ≤ r.2.2.2.1) && decide (r.2.2.2.1 ≤ ofNat (length r.2.2.2.2.2.2.1)) then bif decide (0 + length (List.drop 0 (List.take (toNat r.2.2.2.1) r.2.2.2.2.2.2.1)) ≤ 1256584717458) then bif decide (length ([] ++ List.drop 0 (List.take (toNat r.2.2.2.1) r.2.2.2.2.2.2.1)) + length [(r.2.2.2.2.2.2.2.2.1,r.2.2.2.2.2.2.2.2.2.1,r.2.2.2.2.2.2.2.2.2.2.1,r.2.2.2.2.2.2.2.2.2.2.2.1,r.2.2.2.2.2.2.2.2.2.2.2.2.1,r.2.2.2.2.2.2.2.2.2.2.2.2.2.1,r.2.2.2.2.2.2.2.2.2.2.2.2.2.2.1,r.2.2.2.2.2.2.2.2.2.2.2.2.2.2.2.1,r.2.2.2.2.2.2.2.2.2.2.2.2.2.2.2.2.1,r.2.2.2.2.2.2.2.2.2.2.2.2.2.2.2.2.2.1,())] ≤ 1256584717458) then bif decide (ofNat 0 ≤ r.2.2.2.1) && (decide (r.2.2.2.1 ≤ ofNat (length r.2.2.2.2.2.2.1)) && decide (ofNat (length r.2.2.2.2.2.2.1) ≤ ofNat (length r.2.2.2.2.2.2.1))) then bif decide (length ([] ++ List.drop 0 (List.take (toNat r.2.2.2.1) r.2.2.2.2.2.2.1) ++ [(r.2.2.2.2.2.2.2.2.1,r.2.2.2.2.2.2.2.2.2.1,r.2.2.2.2.2.2.2.2.2.2.1,r.2.2.2.2.2.2.2.2.2.2.2.1,r.2.2.2.2.2.2.2.2.2.2.2.2.1,r.2.2.2.2.2.2.2.2.2.2.2.2.2.1,r.2.2.2.2.2.2.2.2.2.2.2.2.2.2.1,r.2.2.2.2.2.2.2.2.2.2.2.2.2.2.2.1,r.2.2.2.2.2.2.2.2.2.2.2.2.2.2.2.2.1,r.2.2.2.2.2.2.2.2.2.2.2.2.2.2.2.2.2.1,())]) + length (List.drop (toNat r.2.2.2.1) (List.take (toNat (ofNat (length r.2.2.2.2.2.2.1))) r.2.2.2.2.2.2.1)) ≤ 1256584717458) then some (inl (r.1,r.2.1,wrap .i64 (r.2.2.1 + ofNat 1),r.2.2.2.2.1,r.2.2.2.2.2.1,[] ++ List.drop 0 (List.take (toNat r.2.2.2.1) r.2.2.2.2.2.2.1) ++ [(r.2.2.2.2.2.2.2.2.1,r.2.2.2.2.2.2.2.2.2.1,r.2.2.2.2.2.2.2.2.2.2.1,r.2.2.2.2.2.2.2.2.2.2.2.1,r.2.2.2.2.2.2.2.2.2.2.2.2.1,r.2.2.2.2.2.2.2.2.2.2.2.2.2.1,r.2.2.2.2.2.2.2.2.2.2.2.2.2.2.1,r.2.2.2.2.2.2.2.2.2.2.2.2.2.2.2.1,r.2.2.2.2.2.2.2.2.2.2.2.2.2.2.2.2.1,r.2.2.2.2.2.2.2.2.2.2.2.2.2.2.2.2.2.1,())] ++ List.drop (toNat r.2.2.2.1) (List.take (toNat (ofNat (length r.2.2.2.2.2.2.1))) r.2.2.2.2.2.2.1),r.2.2.2.2.2.2.2.1,())) else none else none else none else none else none else some (inl (r.1,r.2.1,wrap .i64 (r.2.2.1 + ofNat 1),r.2.2.2.2.1,r.2.2.2.2.2.1,r.2.2.2.2.2.2.1,r.2.2.2.2.2.2.2.1,())) else none else none else some (inr (x5,x6,())):=by kernel_rfl
theorem F14_eq (x0:List R2) (x1:List R3) (x2:ByteArray) (x3:List R7):F14 (x0,x1,x2,x3,()) =
 Option.bind (loop B14_1 (x2,x3,ofNat 0,x0,x1,[],[],())) fun r => some (r.1,r.2.1,()):=by kernel_rfl
theorem B15_0_eq (x0 x1:List R6) (x2:Int):B15_0 (x0,x1,x2,()) =
 bif decide (x2 < ofNat (length x0)) then bif decide (ofNat 0 ≤ x2) then Option.bind x0[toNat x2]? fun y => bif decide (ofNat 0 ≤ x2) then Option.bind x1[toNat x2]? fun y_1 => bif !(bl y.1 == bl y_1.1 && (y.2.1 == y_1.2.1 && (y.2.2.1 == y_1.2.2.1 && (y.2.2.2.1 == y_1.2.2.2.1 && bl y.2.2.2.2.1 == bl y_1.2.2.2.2.1)) && (bl y.2.2.2.2.2.1 == bl y_1.2.2.2.2.2.1 && (y.2.2.2.2.2.2.1 == y_1.2.2.2.2.2.2.1 && (y.2.2.2.2.2.2.2.1 == y_1.2.2.2.2.2.2.2.1 && (y.2.2.2.2.2.2.2.2.1 == y_1.2.2.2.2.2.2.2.2.1 && bl y.2.2.2.2.2.2.2.2.2.1 == bl y_1.2.2.2.2.2.2.2.2.2.1)))))) then some (inr (inl (false,()))) else some (inl (x0,x1,wrap .i64 (x2 + ofNat 1),())) else none else none else some (inr (inr ())):=by kernel_rfl
theorem F15_eq (x0 x1:List R6):F15 (x0,x1,()) =
 bif !ofNat (length x0) == ofNat (length x1) then some (false,()) else Option.bind (loop B15_0 (x0,x1,ofNat 0,())) fun r => elim (fun p => some (p.1,())) (fun p => some (true,())) r:=by kernel_rfl
theorem B16_0_eq (x0:List R6) (x1:Int) (x2:List R6):B16_0 (x0,x1,x2,()) =
 bif decide (x1 < ofNat (length x0)) then bif decide (ofNat 0 ≤ x1) then Option.bind x0[toNat x1]? fun y => bif decide (length x2 + length [(y.1,y.2.1,y.2.2.1,y.2.2.2.1,y.2.2.2.2.1,y.2.2.2.2.2.1,y.2.2.2.2.2.2.1,y.2.2.2.2.2.2.2.1,y.2.2.2.2.2.2.2.2.1,y.2.2.2.2.2.2.2.2.2.1,())] ≤ 1256584717458) then some (inl (x0,wrap .i64 (x1 + ofNat 1),x2 ++ [(y.1,y.2.1,y.2.2.1,y.2.2.2.1,y.2.2.2.2.1,y.2.2.2.2.2.1,y.2.2.2.2.2.2.1,y.2.2.2.2.2.2.2.1,y.2.2.2.2.2.2.2.2.1,y.2.2.2.2.2.2.2.2.2.1,())],())) else none else none else some (inr (x2,())):=by kernel_rfl
theorem F16_eq (x0:List R6):F16 (x0,()) =
 Option.bind (loop B16_0 (x0,ofNat 0,[],())) fun r => some (r.1,()):=by kernel_rfl
theorem F131_eq (x0:ByteArray) (x1 x2 x3:Int) (x4 x5:ByteArray) (x6 x7 x8:Int) (x9:ByteArray):F131 (x0,x1,x2,x3,x4,x5,x6,x7,x8,x9,()) =
 Option.bind (F36 (x0,x5,())) fun r => bif !r.1 == ofNat 0 then some (r.1,()) else Option.bind (F45 (x1,x2,x3,x4,x6,x7,x8,x9,())) fun r => some (r.1,()):=by kernel_rfl
theorem F87_eq (x0:List ByteArray):F87 (x0,()) = bif Nat.ble (length x0) 8796093022208 then some (x0,()) else none:=rfl
theorem F47_eq (x0:List R0):F47 (x0,()) = bif Nat.ble (length x0) 2513169434916 then some (x0,()) else none:=rfl
theorem F37_eq (x0:List R6):F37 (x0,()) = bif Nat.ble (length x0) 1256584717458 then some (x0,x0,()) else none:=rfl
theorem F38_eq (x0:List R10):F38 (x0,()) = bif Nat.ble (length x0) 1172812402961 then some (x0,x0,()) else none:=rfl
end Go.Vx.Z
/-! strings.Split at a dot; texts held against one another. -/
namespace Go.Vx
open Go
set_option linter.unusedVariables false
theorem xIndexByte_eq (s:ByteArray) (c:Int):xIndexByte s c = Lib.indexByte (bs s) c.toNat.toUInt8:=Lib.firstIdx_eq s c.toNat.toUInt8
theorem xCount_eq (s:ByteArray) (c:Int):xCount s c = (((bs s).count c.toNat.toUInt8:Nat):Int):=by
 unfold xCount
 rw [Lib.foldl_data,Lib.count_foldl]
 simp [Lib.countByte,bs]
def splitB (c:UInt8):List UInt8 → List (List UInt8)
 | [] => [[]]
 | x :: l => if x == c then [] :: splitB c l else match splitB c l with
  | [] => [[x]]
  | w :: ws => (x :: w) :: ws
theorem splitB_ne (c:UInt8):∀ l,splitB c l ≠ []
 | [] => by simp [splitB]
 | x :: l => by
  unfold splitB
  split
  ·simp
  ·split <;> simp
theorem index_no {c:UInt8}:∀ {l:List UInt8},Lib.indexByte l c = -1 → splitB c l = [l] ∧ l.count c = 0
 | [],_ => ⟨rfl,rfl⟩
 | x :: l,h => by
  unfold Lib.indexByte at h
  split at h
  ·cases h
  ·rename_i hx
   split at h
   ·rename_i hl
    obtain ⟨h1,h2⟩:=index_no (l:=l) (by simpa using hl)
    unfold splitB
    rw [if_neg hx,h1]
    exact ⟨rfl,by rw [List.count_cons,h2]; simp [hx]⟩
   ·have:=Lib.indexByte_ge l c
    rename_i hl
    have hl':Lib.indexByte l c ≠ -1:=by simpa using hl
    omega
theorem index_yes {c:UInt8}:∀ {l:List UInt8},Lib.indexByte l c ≠ -1 → ∃ k:Nat,Lib.indexByte l c = k ∧ k < l.length ∧ splitB c l = l.take k :: splitB c (l.drop (k + 1)) ∧ l.count c = (l.drop (k + 1)).count c + 1
 | [],h => absurd rfl h
 | x :: l,h => by
  unfold Lib.indexByte at h ⊢
  split
  ·rename_i hx
   refine ⟨0,rfl,by simp,?_,?_⟩
   ·conv => lhs; unfold splitB
    rw [if_pos hx]
    simp
   ·rw [List.count_cons]; simp [hx]
  ·rename_i hx
   rw [if_neg hx] at h
   split
   ·rename_i hl; rw [if_pos hl] at h; exact absurd rfl h
   ·rename_i hl
    obtain ⟨k,h1,h2,h3,h4⟩:=index_yes (l:=l) (c:=c) (by simpa using hl)
    refine ⟨k + 1,by rw [h1]; rfl,by simp; omega,?_,?_⟩
    ·conv => lhs; unfold splitB
     rw [if_neg hx,h3]
     simp
    ·rw [List.count_cons,h4]; simp [hx]
theorem splitB_length (c:UInt8):∀ l,(splitB c l).length = l.count c + 1
 | [] => rfl
 | x :: l => by
  have ih:=splitB_length c l
  unfold splitB
  rw [List.count_cons]
  split
  ·rename_i hx; simp [ih,hx]
  ·rename_i hx
   have hne:=splitB_ne c l
   cases hs:splitB c l with
   | nil => exact absurd hs hne
   | cons w ws => rw [hs] at ih; simp [hx] at ih ⊢; exact ih
namespace Z
def dot:ByteArray:=lit [46]
def splitDot (s:ByteArray):List ByteArray:=(splitB 46 (bs s)).map lit
theorem lit_bs (s:ByteArray):lit (bs s) = s:=bs_inj rfl
theorem F237_dot (s:ByteArray):F237 (s,dot,()) = some (Lib.indexByte (bs s) 46,()):=by
 rw [F237_eq,F239_eq]
 have h1:(Int.ofNat (ByteArray.size dot) == Int.ofNat 0) = false:=rfl
 have h2:(Int.ofNat (ByteArray.size dot) == Int.ofNat 1) = true:=rfl
 have h3:decide (Int.ofNat 0 < Int.ofNat (ByteArray.size dot)) = true:=rfl
 rw [h1,h2,h3,F272_eq,xIndexByte_eq]
 simp only [cond_false,cond_true,Option.bind_some]
 cases hd:(bl dot == bl s) with
 | false => rfl
 | true =>
  have:bl dot = bl s:=by simpa using hd
  rw [bs_toList,bs_toList] at this
  rw [← this]
  rfl
theorem split_inv (s:ByteArray) (n:Nat) (hn:n ≤ 1099511627776):∀ (k:Nat) (r:ByteArray) (a:List ByteArray) (i:Nat),k = (bs r).count 46 → r.size ≤ 1099511627776 → i + k = n → a.length = n + 1 → (a.take i).map bs ++ splitB 46 (bs r) = splitB 46 (bs s) →
  ∃ r' a',loop B187_0 (r,dot,(0:Int),(n:Int),(i:Int),a,()) = some (r',(n:Int),a',()) ∧ a'.length = n + 1 ∧ (a'.take n).map bs ++ [bs r'] = splitB 46 (bs s)
 | 0,r,a,i,hk,hr,hi,ha,hs => by
  obtain rfl:i = n:=by omega
  have hno:Lib.indexByte (bs r) 46 = -1:=by
   by_cases h:Lib.indexByte (bs r) 46 = -1
   ·exact h
   ·obtain ⟨_,_,_,_,h4⟩:=index_yes h
    omega
  refine ⟨r,a,loop_end ?_,ha,by rw [← hs,(index_no hno).1]⟩
  rw [B187_0_eq]
  have:decide ((i:Int) < (i:Int)) = false:=by simp
  rw [this]
  rfl
 | k + 1,r,a,i,hk,hr,hi,ha,hs => by
  have hyes:Lib.indexByte (bs r) 46 ≠ -1:=fun h => by
   have:=(index_no h).2
   omega
  obtain ⟨m,h1,h2,h3,h4⟩:=index_yes hyes
  have hsz:r.size = (bs r).length:=bs_size r
  have hrest:bs (r.extract (m + 1) r.size) = (bs r).drop (m + 1):=by
   rw [bs_extract,hsz,List.take_length]
  obtain ⟨r',a',h5,h6,h7⟩:=split_inv s n hn k (r.extract (m + 1) r.size) (a.set i (r.extract 0 m)) (i + 1) (by rw [hrest]; omega) (by rw [bs_size,hrest,List.length_drop]; omega) (by omega) (by rw [List.length_set]; exact ha) (by
   rw [hrest,← hs,h3,List.take_set,List.take_succ_eq_append_getElem (by omega),List.set_append]
   have hl:(a.take i).length = i:=by rw [List.length_take]; omega
   rw [hl,if_neg (by omega),Nat.sub_self,List.set_cons_zero,List.map_append,List.append_assoc]
   simp [bs_extract])
  refine ⟨r',a',loop_step ?_ h5,h6,h7⟩
  rw [B187_0_eq,F237_dot,h1]
  have e1:decide ((i:Int) < (n:Int)) = true:=by simp; omega
  have e2:decide ((m:Int) < Int.ofNat 0) = false:=by simp
  have e3:IntKind.wrap IntKind.i64 ((m:Int) + 0) = (m:Int):=by rw [wrap64 (by omega) (by omega)]; omega
  have e4:(decide (Int.ofNat 0 ≤ (m:Int)) && decide ((m:Int) ≤ Int.ofNat r.size)) = true:=by simp; omega
  have e5:(decide (Int.ofNat 0 ≤ (i:Int)) && decide ((i:Int) < Int.ofNat a.length)) = true:=by simp; omega
  have e6:IntKind.wrap IntKind.i64 ((m:Int) + Int.ofNat (ByteArray.size dot)) = ((m + 1:Nat):Int):=by
   have:Int.ofNat (ByteArray.size dot) = 1:=rfl
   rw [this]; exact wrap64s m (by omega)
  have e7:(decide (Int.ofNat 0 ≤ ((m + 1:Nat):Int)) && (decide (((m + 1:Nat):Int) ≤ Int.ofNat r.size) && decide (Int.ofNat r.size ≤ Int.ofNat r.size))) = true:=by simp; omega
  have e8:IntKind.wrap IntKind.i64 ((i:Int) + Int.ofNat 1) = ((i + 1:Nat):Int):=wrap64s i (by omega)
  have e9:a[i]? = some (a[i]'(by omega)):=List.getElem?_eq_getElem _
  simp only [e1,e2,e3,e4,e5,e6,e7,e8,cond_true,cond_false,Int.toNat_natCast,Option.bind_some]
  rw [e9]
  rfl
theorem F136_dot (s:ByteArray) (hs:s.size ≤ 1099511627776):F136 (s,dot,()) = some (splitDot s,()):=by
 rw [F136_eq,F187_eq]
 have h1:(Int.negSucc 0 == Int.ofNat 0) = false:=rfl
 have h2:(bl dot == []) = false:=by rw [bs_toList]; rfl
 have h3:decide (Int.negSucc 0 < Int.ofNat 0) = true:=rfl
 have h4:F236 (s,dot,()) = some ((((bs s).count 46:Nat):Int),()):=by
  rw [F236_eq]
  have g1:(Int.ofNat (ByteArray.size dot) == Int.ofNat 0) = false:=rfl
  have g2:(Int.ofNat (ByteArray.size dot) == Int.ofNat 1) = true:=rfl
  have g3:decide (Int.ofNat 0 < Int.ofNat (ByteArray.size dot)) = true:=rfl
  rw [g1,g2,g3]
  simp only [cond_false,cond_true]
  rw [xCount_eq]
  rfl
 have hc:(bs s).count 46 ≤ (bs s).length:=List.count_le_length
 have hsz:=bs_size s
 rw [h1,h2,h3,h4]
 simp only [cond_false,cond_true,Option.bind_some]
 generalize hn:(bs s).count 46 = n
 have e1:IntKind.wrap IntKind.i64 (Int.ofNat s.size + Int.ofNat 1) = ((s.size + 1:Nat):Int):=wrap64s s.size (by omega)
 have e2:IntKind.wrap IntKind.i64 ((n:Int) + Int.ofNat 1) = ((n + 1:Nat):Int):=wrap64s n (by omega)
 have e3:decide (((s.size + 1:Nat):Int) < ((n + 1:Nat):Int)) = false:=by simp; omega
 rw [e1,e2,e3]
 simp only [cond_false]
 have e4:(decide (Int.ofNat 0 ≤ ((n + 1:Nat):Int)) && (decide (((n + 1:Nat):Int) ≤ ((n + 1:Nat):Int)) && decide ((Int.ofNat 16 * ((n + 1:Nat):Int)) ≤ Int.ofNat 281474976710656) && decide (((n + 1:Nat):Int) ≤ Int.ofNat 9223372036854775807))) = true:=by
  simp; omega
 have e5:IntKind.wrap IntKind.i64 (((n + 1:Nat):Int) - Int.ofNat 1) = (n:Int):=by rw [show ((n + 1:Nat):Int) - Int.ofNat 1 = (n:Int) by simp]; exact wrap64 (by omega) (by omega)
 rw [e4,e5]
 simp only [cond_true,Int.toNat_natCast]
 obtain ⟨r',a',h5,h6,h7⟩:=split_inv s n (by omega) n s (List.replicate (n + 1) (lit [])) 0 hn.symm hs (by omega) (by simp) (by simp)
 have h5':loop B187_0 (s,dot,Int.ofNat 0,(n:Int),Int.ofNat 0,List.replicate (n + 1) (lit []),()) = some (r',(n:Int),a',()):=h5
 rw [h5']
 simp only [Option.bind_some]
 have e6:(decide (Int.ofNat 0 ≤ (n:Int)) && decide ((n:Int) < Int.ofNat a'.length)) = true:=by simp; omega
 have e7:a'[n]? = some (a'[n]'(by omega)):=List.getElem?_eq_getElem _
 have e8:(decide (Int.ofNat 0 ≤ ((n + 1:Nat):Int)) && (decide (((n + 1:Nat):Int) ≤ Int.ofNat (List.length (a'.set n r'))) && decide (Int.ofNat (List.length (a'.set n r')) ≤ Int.ofNat (List.length (a'.set n r'))))) = true:=by simp; omega
 simp only [e6,e2,cond_true,Int.toNat_natCast,e8,Nat.zero_add,List.drop_zero]
 rw [e7]
 simp only [Option.bind_some]
 have hl:List.take (n + 1) (a'.set n r') = a'.take n ++ [r']:=by
  rw [List.take_set,List.take_of_length_le (by omega),List.set_eq_take_append_cons_drop,if_pos (by omega),List.drop_of_length_le (by omega)]
 have he:a'.take n ++ [r'] = splitDot s:=by
  unfold splitDot
  rw [← h7,List.map_append,List.map_map]
  have:(lit ∘ bs) = id:=by funext x; exact lit_bs x
  rw [this,List.map_id]
  simp [lit_bs]
 rw [hl,he]
end Z
end Go.Vx
/-! Orders: whole numbers, bytes, words, versions. -/
namespace Go.Vx
open Go
set_option linter.unusedVariables false
structure Lin {α:Type} (c:α → α → Int):Prop where
 rng:∀ x y,c x y = -1 ∨ c x y = 0 ∨ c x y = 1
 eq0:∀ x y,c x y = 0 ↔ x = y
 anti:∀ x y,c y x = - c x y
 trans:∀ x y z,c x y = -1 → c y z = -1 → c x z = -1
theorem Lin.self {α:Type} {c:α → α → Int} (h:Lin c) (x:α):c x x = 0:=(h.eq0 x x).2 rfl
theorem Lin.pull {α β:Type} {c:α → α → Int} (h:Lin c) (f:β → α) (hf:∀ x y,f x = f y → x = y):Lin fun x y => c (f x) (f y):=
 ⟨fun x y => h.rng _ _,fun x y => ⟨fun e => hf _ _ ((h.eq0 _ _).1 e),fun e => by rw [e]; exact h.self _⟩,fun x y => h.anti _ _,fun x y z => h.trans _ _ _⟩
def orC (a b:Int):Int:=if a = 0 then b else a
theorem Lin.prod {α β:Type} {c:α → α → Int} {d:β → β → Int} (h:Lin c) (k:Lin d):Lin fun (x y:α × β) => orC (c x.1 y.1) (d x.2 y.2):=by
 refine ⟨fun x y => ?_,fun x y => ?_,fun x y => ?_,fun x y z => ?_⟩
 ·unfold orC; split
  ·exact k.rng _ _
  ·exact h.rng _ _
 ·unfold orC
  split
  ·rename_i e
   rw [k.eq0]
   have:=(h.eq0 _ _).1 e
   exact ⟨fun e2 => Prod.ext this e2,fun e2 => by rw [e2]⟩
  ·rename_i e
   exact ⟨fun e2 => absurd e2 e,fun e2 => absurd ((h.eq0 x.1 y.1).2 (by rw [e2])) e⟩
 ·unfold orC
  rw [h.anti x.1 y.1,k.anti x.2 y.2]
  split
  ·rename_i e; rw [if_pos (by omega)]
  ·rename_i e; rw [if_neg (by omega)]
 ·unfold orC
  intro h1 h2
  by_cases e1:c x.1 y.1 = 0
  ·rw [if_pos e1] at h1
   have e1':=(h.eq0 _ _).1 e1
   rw [e1']
   by_cases e2:c y.1 z.1 = 0
   ·rw [if_pos e2] at h2 ⊢
    exact k.trans _ _ _ h1 h2
   ·rw [if_neg e2] at h2 ⊢
    exact h2
  ·rw [if_neg e1] at h1
   by_cases e2:c y.1 z.1 = 0
   ·have e2':=(h.eq0 _ _).1 e2
    rw [← e2',if_neg e1]
    exact h1
   ·rw [if_neg e2] at h2
    have:=h.trans _ _ _ h1 h2
    rw [if_neg (by omega)]
    exact this
def listC {α:Type} (c:α → α → Int):List α → List α → Int
 | [],[] => 0
 | [],_ :: _ => -1
 | _ :: _,[] => 1
 | x :: xs,y :: ys => orC (c x y) (listC c xs ys)
theorem Lin.list {α:Type} {c:α → α → Int} (h:Lin c):Lin (listC c):=by
 have rng:∀ x y,listC c x y = -1 ∨ listC c x y = 0 ∨ listC c x y = 1:=by
  intro x
  induction x with
  | nil => intro y; cases y <;> simp [listC]
  | cons a x ih =>
   intro y
   cases y with
   | nil => simp [listC]
   | cons b y =>
    simp only [listC,orC]
    split
    ·exact ih y
    ·exact h.rng _ _
 have eq0:∀ x y,listC c x y = 0 ↔ x = y:=by
  intro x
  induction x with
  | nil => intro y; cases y <;> simp [listC]
  | cons a x ih =>
   intro y
   cases y with
   | nil => simp [listC]
   | cons b y =>
    simp only [listC,orC]
    split
    ·rename_i e
     rw [ih y,(h.eq0 _ _).1 e]
     simp
    ·rename_i e
     refine ⟨fun e2 => absurd e2 e,fun e2 => ?_⟩
     injection e2 with e3 _
     exact absurd ((h.eq0 _ _).2 e3) e
 have anti:∀ x y,listC c y x = - listC c x y:=by
  intro x
  induction x with
  | nil => intro y; cases y <;> simp [listC]
  | cons a x ih =>
   intro y
   cases y with
   | nil => simp [listC]
   | cons b y =>
    simp only [listC,orC]
    rw [h.anti a b,ih y]
    split
    ·rename_i e; rw [if_pos (by omega)]
    ·rename_i e; rw [if_neg (by omega)]
 refine ⟨rng,eq0,anti,?_⟩
 intro x
 induction x with
 | nil =>
  intro y z h1 h2
  cases y with
  | nil => simp [listC] at h1
  | cons b y =>
   cases z with
   | nil => simp [listC] at h2
   | cons d z => rfl
 | cons a x ih =>
  intro y z h1 h2
  cases y with
  | nil => simp [listC] at h1
  | cons b y =>
   cases z with
   | nil => simp [listC] at h2
   | cons d z =>
    simp only [listC,orC] at h1 h2 ⊢
    by_cases e1:c a b = 0
    ·rw [if_pos e1] at h1
     rw [(h.eq0 _ _).1 e1]
     by_cases e2:c b d = 0
     ·rw [if_pos e2] at h2 ⊢
      exact ih y z h1 h2
     ·rw [if_neg e2] at h2 ⊢
      exact h2
    ·rw [if_neg e1] at h1
     by_cases e2:c b d = 0
     ·rw [← (h.eq0 _ _).1 e2,if_neg e1]
      exact h1
     ·rw [if_neg e2] at h2
      have:=h.trans _ _ _ h1 h2
      rw [if_neg (by omega)]
      exact this
theorem Lin.swo {α:Type} {c:α → α → Int} (h:Lin c):Sort.SWO fun x y => decide (c x y < 0):=by
 have lt:∀ x y,c x y < 0 ↔ c x y = -1:=fun x y => by have:=h.rng x y; omega
 have tr:∀ x y z,c x y = 1 → c y z = 1 → c x z = 1:=fun x y z h1 h2 => by
  have:=h.trans z y x (by rw [h.anti y z]; omega) (by rw [h.anti x y]; omega)
  rw [h.anti x z] at this; omega
 refine ⟨fun x => by simp [h.self],fun x y z h1 h2 => ?_,fun x y z h1 h2 => ?_⟩
 ·simp only [decide_eq_true_eq,lt] at *
  exact h.trans _ _ _ h1 h2
 ·simp only [decide_eq_false_iff_not,lt] at *
  intro h3
  have r1:=h.rng x y
  have r2:=h.rng y z
  by_cases e1:c x y = 0
  ·rw [(h.eq0 _ _).1 e1] at h3; exact h2 h3
  ·by_cases e2:c y z = 0
   ·rw [← (h.eq0 _ _).1 e2] at h3; exact h1 h3
   ·have:=tr x y z (by omega) (by omega); omega
/-! ### The orders -/
def cmpI (a b:Int):Int:=if a < b then -1 else if b < a then 1 else 0
theorem lin_cmpI:Lin cmpI:=by
 refine ⟨fun x y => ?_,fun x y => ?_,fun x y => ?_,fun x y z => ?_⟩ <;> unfold cmpI
 ·split
  ·simp
  ·split <;> simp
 ·split
  ·constructor <;> intro h <;> omega
  ·split <;> constructor <;> intro h <;> omega
 ·split <;> split <;> first | omega | (split <;> omega) | rfl
 ·intro h1 h2
  split at h1
  ·split at h2
   ·rw [if_pos (by omega)]
   ·split at h2 <;> omega
  ·split at h1 <;> omega
def cmpU (a b:UInt8):Int:=cmpI a.toNat b.toNat
theorem lin_cmpU:Lin cmpU:=lin_cmpI.pull (fun a:UInt8 => (a.toNat:Int)) fun x y h => UInt8.toNat_inj.1 (by omega)
abbrev cmpT:List UInt8 → List UInt8 → Int:=listC cmpU
theorem lin_cmpT:Lin cmpT:=lin_cmpU.list
theorem compareBytes_eq:∀ a b,Lib.compareBytes a b = cmpT a b
 | [],[] => rfl
 | [],_ :: _ => rfl
 | _ :: _,[] => rfl
 | x :: a,y :: b => by
  have ih:=compareBytes_eq a b
  by_cases h1:x.toNat < y.toNat
  ·have c:cmpU x y = -1:=by unfold cmpU cmpI; rw [if_pos (by omega)]
   simp [Lib.compareBytes,listC,orC,c,UInt8.lt_iff_toNat_lt,h1]
  ·by_cases h2:y.toNat < x.toNat
   ·have c:cmpU x y = 1:=by unfold cmpU cmpI; rw [if_neg (by omega),if_pos (by omega)]
    simp [Lib.compareBytes,listC,orC,c,UInt8.lt_iff_toNat_lt,h1,h2]
   ·have c:cmpU x y = 0:=by unfold cmpU cmpI; rw [if_neg (by omega),if_neg (by omega)]
    simp [Lib.compareBytes,listC,orC,c,UInt8.lt_iff_toNat_lt,h1,h2,ih]
theorem bytesLess_eq:∀ a b,Op.bytesLess a b = decide (cmpT a b = -1)
 | [],[] => rfl
 | [],_ :: _ => rfl
 | _ :: _,[] => rfl
 | x :: a,y :: b => by
  unfold Op.bytesLess
  simp only [listC,cmpU,cmpI,orC]
  rw [bytesLess_eq a b]
  by_cases h1:x < y
  ·have:=UInt8.lt_iff_toNat_lt.1 h1
   simp [h1,this]
  ·have h1':¬ x.toNat < y.toNat:=fun h => h1 (UInt8.lt_iff_toNat_lt.2 h)
   have h1'':¬ ((x.toNat:Int) < (y.toNat:Int)):=by omega
   by_cases h2:x = y
   ·subst h2; simp [h1]
   ·have h3:y.toNat < x.toNat:=by
     rcases Nat.lt_or_ge y.toNat x.toNat with h | h
     ·exact h
     ·exact absurd (UInt8.toNat_inj.1 (by omega)) h2
    have h3':(y.toNat:Int) < (x.toNat:Int):=by omega
    simp [h1,h2,h1'',h3']
def dig1 (c:UInt8):Bool:=decide (48 ≤ c.toNat) && decide (c.toNat ≤ 57)
def allDig (l:List UInt8):Bool:=l.all dig1 && !l.isEmpty
def wordKey (l:List UInt8):Int × Int × List UInt8:=if allDig l then (0,(l.length:Int),l) else (1,0,l)
def cmpW (a b:List UInt8):Int:=(fun (x y:Int × Int × List UInt8) => orC (cmpI x.1 y.1) (orC (cmpI x.2.1 y.2.1) (cmpT x.2.2 y.2.2))) (wordKey a) (wordKey b)
theorem lin_cmpW:Lin cmpW:=(lin_cmpI.prod (lin_cmpI.prod lin_cmpT)).pull wordKey fun x y h => by
 unfold wordKey at h
 split at h <;> split at h <;> simp_all
theorem splitB_inj (c:UInt8):∀ x y,splitB c x = splitB c y → x = y
 | [],[],_ => rfl
 | [],b :: y,h => by
  have h1:=splitB_length c (b :: y)
  rw [← h] at h1
  unfold splitB at h
  split at h
  ·have:=splitB_ne c y
   injection h with _ h
   exact absurd h.symm this
  ·split at h <;> cases h
 | a :: x,[],h => by
  unfold splitB at h
  split at h
  ·have:=splitB_ne c x
   injection h with _ h
   exact absurd h this
  ·split at h <;> cases h
 | a :: x,b :: y,h => by
  have hx:=splitB_ne c x
  have hy:=splitB_ne c y
  rw [splitB,splitB] at h
  cases hsx:splitB c x with
  | nil => exact absurd hsx hx
  | cons w ws =>
   cases hsy:splitB c y with
   | nil => exact absurd hsy hy
   | cons v vs =>
    rw [hsx,hsy] at h
    by_cases ha:(a == c) = true
    ·by_cases hb:(b == c) = true
     ·rw [if_pos ha,if_pos hb] at h
      injection h with _ h
      rw [splitB_inj c x y (by rw [hsx,hsy,h])]
      have:=(beq_iff_eq.1 ha).trans (beq_iff_eq.1 hb).symm
      rw [this]
     ·rw [if_pos ha,if_neg hb] at h
      cases h
    ·by_cases hb:(b == c) = true
     ·rw [if_neg ha,if_pos hb] at h
      cases h
     ·rw [if_neg ha,if_neg hb] at h
      injection h with h1 h2
      injection h1 with h3 h4
      rw [h3,splitB_inj c x y (by rw [hsx,hsy,h4,h2])]
def preKey (l:List UInt8):Int × List (List UInt8):=if l = [] then (1,[]) else (0,splitB 46 l)
def cmpP (a b:List UInt8):Int:=(fun (x y:Int × List (List UInt8)) => orC (cmpI x.1 y.1) (listC cmpW x.2 y.2)) (preKey a) (preKey b)
theorem lin_cmpP:Lin cmpP:=(lin_cmpI.prod lin_cmpW.list).pull preKey fun x y h => by
 unfold preKey at h
 split at h <;> split at h
 ·simp_all
 ·simp at h
 ·simp at h
 ·injection h with _ h; exact splitB_inj 46 _ _ h
abbrev Ver:=Int × Int × Int × ByteArray × Unit
def verKey (v:Ver):Int × Int × Int × List UInt8:=(v.1,v.2.1,v.2.2.1,bs v.2.2.2.1)
def cmpV (a b:Ver):Int:=(fun (x y:Int × Int × Int × List UInt8) => orC (cmpI x.1 y.1) (orC (cmpI x.2.1 y.2.1) (orC (cmpI x.2.2.1 y.2.2.1) (cmpP x.2.2.2 y.2.2.2)))) (verKey a) (verKey b)
theorem lin_cmpV:Lin cmpV:=(lin_cmpI.prod (lin_cmpI.prod (lin_cmpI.prod lin_cmpP))).pull verKey fun x y h => by
 obtain ⟨a,b,c,d,u⟩:=x
 obtain ⟨a',b',c',d',u'⟩:=y
 simp only [verKey,Prod.mk.injEq] at h
 obtain ⟨h1,h2,h3,h4⟩:=h
 rw [h1,h2,h3,bs_inj h4]
abbrev Req:=ByteArray × Ver
def reqKey (r:Req):List UInt8 × Ver:=(bs r.1,r.2)
def cmpR (a b:Req):Int:=(fun (x y:List UInt8 × Ver) => orC (cmpT x.1 y.1) (cmpV x.2 y.2)) (reqKey a) (reqKey b)
theorem lin_cmpR:Lin cmpR:=(lin_cmpT.prod lin_cmpV).pull reqKey fun x y h => by
 simp only [reqKey,Prod.mk.injEq] at h
 exact Prod.ext (bs_inj h.1) h.2
end Go.Vx
/-! What the program's comparisons come to. -/
namespace Go.Vx.Z
open Go Go.Vx
set_option linter.unusedVariables false
theorem F79_is (a b:Int):F79 (a,b,()) = some (cmpI a b,()):=by
 rw [F79_eq,F134_eq,F134_eq]
 simp only [beq_self_eq_true,Bool.not_true,Option.bind_some,cond_false]
 unfold cmpI
 by_cases h1:a < b
 ·simp [h1]
 ·by_cases h2:b < a
  ·simp [h1,h2]
  ·simp [h1,h2]
theorem F189_is (a b:ByteArray):F189 (a,b,()) = some (cmpT (bs a) (bs b),()):=by
 rw [F189_eq,F238_eq,F238_eq]
 simp only [beq_self_eq_true,Bool.not_true,Option.bind_some,cond_false,bs_toList,bytesLess_eq]
 have r:=lin_cmpT.rng (bs a) (bs b)
 by_cases h1:cmpT (bs a) (bs b) = -1
 ·simp [h1]
 ·by_cases h2:bs a = bs b
  ·have:=(lin_cmpT.eq0 (bs a) (bs b)).2 h2
   simp [h1,h2,this,lin_cmpT.self]
  ·have:cmpT (bs a) (bs b) ≠ 0:=fun h => h2 ((lin_cmpT.eq0 _ _).1 h)
   have:cmpT (bs a) (bs b) = 1:=by omega
   have e:(bs a == bs b) = false:=by simpa using h2
   simp [this,e]
theorem all_take (l:List UInt8) (i:Nat) (h:i < l.length):(l.take (i + 1)).all dig1 = ((l.take i).all dig1 && dig1 l[i]):=by
 rw [List.take_succ_eq_append_getElem h,List.all_append]; simp
theorem F188_is (s:ByteArray) (hs:s.size ≤ 1099511627776):F188 (s,()) = some (allDig (bs s),()):=by
 rw [F188_eq]
 have hl:=bs_size s
 obtain ⟨e,h1,h2⟩:=loop_inv (B:=B188_0) (fun p => ∃ i:Nat,i ≤ s.size ∧ (bs s |>.take i).all dig1 = true ∧ p = (s,Int.ofNat s.size,(i:Int),())) (fun p => (Int.ofNat s.size - p.2.2.1).toNat)
  (fun e => (e = .inl (false,()) ∧ (bs s).all dig1 = false) ∨ (e = .inr (s,()) ∧ (bs s).all dig1 = true)) (by
   rintro p ⟨i,hi,ha,rfl⟩
   rw [B188_0_eq]
   by_cases hlt:i < s.size
   ·have e1:decide ((i:Int) < Int.ofNat s.size) = true:=by simp; omega
    have e2:decide (Int.ofNat 0 ≤ (i:Int)) = true:=by simp
    have hb:=bt_eq s i hlt
    have hil:i < (bs s).length:=by omega
    simp only [e1,e2,Bool.and_self,cond_true]
    rw [hb]
    have hall:∀ q,q < (bs s).length → dig1 ((bs s)[q]!) = false → (bs s).all dig1 = false:=by
     intro q hq hd
     rw [List.all_eq_false]
     refine ⟨(bs s)[q],List.getElem_mem hq,?_⟩
     rw [getElem!_pos (bs s) q hq] at hd
     simp [hd]
    by_cases h1:((bs s)[i].toNat:Int) < Int.ofNat 48
    ·have e3:decide (((bs s)[i].toNat:Int) < Int.ofNat 48) = true:=by simp at h1 ⊢; exact h1
     rw [e3]
     refine .inr ⟨_,rfl,.inl ⟨rfl,hall i hil ?_⟩⟩
     rw [getElem!_pos (bs s) i hil]
     have:¬ 48 ≤ (bs s)[i].toNat:=by simp at h1; omega
     simp [dig1,this]
    ·have e3:decide (((bs s)[i].toNat:Int) < Int.ofNat 48) = false:=by simp at h1 ⊢; exact h1
     rw [e3]
     simp only [cond_false]
     by_cases h2:((bs s)[i].toNat:Int) > Int.ofNat 57
     ·have e4:decide (((bs s)[i].toNat:Int) > Int.ofNat 57) = true:=by simp at h2 ⊢; exact h2
      rw [e4]
      refine .inr ⟨_,rfl,.inl ⟨rfl,hall i hil ?_⟩⟩
      rw [getElem!_pos (bs s) i hil]
      have:¬ (bs s)[i].toNat ≤ 57:=by simp at h2; omega
      simp [dig1,this]
     ·have e4:decide (((bs s)[i].toNat:Int) > Int.ofNat 57) = false:=by simp at h2 ⊢; exact h2
      rw [e4]
      have hd:dig1 (bs s)[i] = true:=by simp [dig1]; simp at h1 h2; omega
      refine .inl ⟨(s,Int.ofNat s.size,((i + 1:Nat):Int),()),?_,⟨i + 1,by omega,by rw [all_take _ _ hil,ha,hd]; rfl,rfl⟩,?_⟩
      ·simp only [cond_false]
       rw [show IntKind.wrap IntKind.i64 ((i:Int) + Int.ofNat 1) = ((i + 1:Nat):Int) from wrap64s i (by omega)]
      ·simp; omega
   ·have e1:decide ((i:Int) < Int.ofNat s.size) = false:=by simp; omega
    rw [e1]
    refine .inr ⟨_,rfl,.inr ⟨rfl,?_⟩⟩
    rw [List.take_of_length_le (by omega)] at ha
    exact ha) (s,Int.ofNat s.size,Int.ofNat 0,()) ⟨0,by omega,by simp,rfl⟩
 rw [h1]
 simp only [Option.bind_some]
 rcases h2 with ⟨rfl,h3⟩ | ⟨rfl,h3⟩
 ·simp [allDig,h3]
 ·simp only [Sum.elim_inr,allDig,h3,Bool.true_and,bs_toList]
  cases bs s <;> rfl
theorem F78_is (l:List Int) (hl:l.length < 1000):F78 (l,()) = some ((l.find? (· != 0)).getD 0,()):=by
 rw [F78_eq]
 have key:∀ (k i:Nat),i + k = l.length → loop B78_0 (Int.ofNat 0,l,Int.ofNat l.length,(i:Int),()) = some (match (l.drop i).find? (· != 0) with | some y => .inl (y,()) | none => .inr (0,())):=by
  intro k
  induction k with
  | zero =>
   intro i hi
   refine loop_end ?_
   rw [B78_0_eq]
   have e1:decide ((i:Int) < Int.ofNat l.length) = false:=by simp; omega
   rw [e1,List.drop_of_length_le (by omega)]
   rfl
  | succ k ih =>
   intro i hi
   have e1:decide ((i:Int) < Int.ofNat l.length) = true:=by simp; omega
   have e2:decide (Int.ofNat 0 ≤ (i:Int)) = true:=by simp
   have e3:l[i]? = some (l[i]'(by omega)):=List.getElem?_eq_getElem _
   have hd:l.drop i = l[i]'(by omega) :: l.drop (i + 1):=List.drop_eq_getElem_cons (by omega)
   by_cases hz:(l[i]'(by omega)) = 0
   ·refine loop_step (q:=(Int.ofNat 0,l,Int.ofNat l.length,((i + 1:Nat):Int),())) ?_ ?_
    ·rw [B78_0_eq]
     simp only [e1,e2,cond_true,Int.toNat_natCast,e3,Option.bind_some]
     rw [show IntKind.wrap IntKind.i64 ((i:Int) + Int.ofNat 1) = ((i + 1:Nat):Int) from wrap64s i (by omega),hz]
     rfl
    ·rw [ih (i + 1) (by omega),hd,List.find?_cons]
     simp [hz]
   ·refine loop_end ?_
    rw [B78_0_eq]
    simp only [e1,e2,cond_true,Int.toNat_natCast,e3,Option.bind_some]
    rw [hd,List.find?_cons]
    have:((l[i]'(by omega)) == Int.ofNat 0) = false:=by simpa using hz
    have h2:((l[i]'(by omega)) != 0) = true:=by simpa using hz
    rw [this,h2]
    rfl
 have:=key l.length 0 (by omega)
 rw [show (((0:Nat)):Int) = Int.ofNat 0 from rfl] at this
 rw [this,List.drop_zero]
 cases l.find? (· != 0) <;> rfl
theorem wordKey_or (a b:List UInt8):cmpW a b = if allDig a then (if allDig b then orC (cmpI a.length b.length) (cmpT a b) else -1) else (if allDig b then 1 else cmpT a b):=by
 unfold cmpW wordKey
 cases h1:allDig a <;> cases h2:allDig b <;> simp [orC,cmpI]
theorem F137_is (a b:ByteArray) (ha:a.size ≤ 1099511627776) (hb:b.size ≤ 1099511627776):F137 (a,b,()) = some (cmpW (bs a) (bs b),()):=by
 have hsa:Int.ofNat a.size = ((bs a).length:Int):=by rw [bs_size]; rfl
 have hsb:Int.ofNat b.size = ((bs b).length:Int):=by rw [bs_size]; rfl
 rw [F137_eq,F188_is a ha,F188_is b hb,wordKey_or,F189_is,F79_is,hsa,hsb]
 simp only [Option.bind_some]
 rw [F78_is _ (by simp)]
 cases h1:allDig (bs a) <;> cases h2:allDig (bs b)
 ·simp
 ·simp
 ·simp
 ·simp only [cond_true,Option.bind_some,orC,if_true]
  by_cases h:cmpI (bs a).length (bs b).length = 0
  ·by_cases h':cmpT (bs a) (bs b) = 0
   ·simp [h,h']
   ·simp [h,h']
  ·simp [h]
theorem F135_is (xs ys:List ByteArray) (hx:xs.length ≤ 1099511627776) (hxs:∀ x ∈ xs,x.size ≤ 1099511627776) (hys:∀ x ∈ ys,x.size ≤ 1099511627776):F135 (xs,ys,()) = some (listC cmpW (xs.map bs) (ys.map bs),()):=by
 rw [F135_eq]
 have key:∀ (k i:Nat),i + k = xs.length → ∃ e,loop B135_0 (xs,ys,xs,Int.ofNat xs.length,(i:Int),()) = some e ∧
   Sum.elim (fun (p:Int × Unit) => some (p.1,())) (fun (p:List ByteArray × List ByteArray × Unit) => bif decide (Int.ofNat (List.length p.1) < Int.ofNat (List.length p.2.1)) then some (Int.negSucc 0,()) else some (Int.ofNat 0,())) e = some (listC cmpW ((xs.drop i).map bs) ((ys.drop i).map bs),()) ∨ ys.length < i:=by
  intro k
  induction k with
  | zero =>
   intro i hi
   by_cases hy:ys.length < i
   ·exact ⟨.inl (0,()),.inr hy⟩
   refine ⟨.inr (xs,ys,()),.inl ⟨loop_end ?_,?_⟩⟩
   ·rw [B135_0_eq]
    have e1:decide ((i:Int) < Int.ofNat xs.length) = false:=by simp; omega
    rw [e1]; rfl
   ·rw [List.drop_of_length_le (l:=xs) (by omega)]
    simp only [Sum.elim_inr]
    cases hd:ys.drop i with
    | nil =>
     have:=List.drop_eq_nil_iff.1 hd
     have e1:decide (Int.ofNat xs.length < Int.ofNat ys.length) = false:=by simp; omega
     rw [e1]; rfl
    | cons y l =>
     have:i < ys.length:=by
      rcases Nat.lt_or_ge i ys.length with h | h
      ·exact h
      ·rw [List.drop_of_length_le h] at hd; cases hd
     have e1:decide (Int.ofNat xs.length < Int.ofNat ys.length) = true:=by simp; omega
     rw [e1]; rfl
  | succ k ih =>
   intro i hi
   by_cases hy:ys.length < i
   ·exact ⟨.inl (0,()),.inr hy⟩
   have hil:i < xs.length:=by omega
   have e1:decide ((i:Int) < Int.ofNat xs.length) = true:=by simp; omega
   have e2:decide (Int.ofNat 0 ≤ (i:Int)) = true:=by simp
   have e3:xs[i]? = some xs[i]:=List.getElem?_eq_getElem _
   have hdx:xs.drop i = xs[i] :: xs.drop (i + 1):=List.drop_eq_getElem_cons hil
   by_cases hyi:i < ys.length
   ·have e4:decide ((i:Int) ≥ Int.ofNat ys.length) = false:=by simp; omega
    have e5:ys[i]? = some ys[i]:=List.getElem?_eq_getElem _
    have hdy:ys.drop i = ys[i] :: ys.drop (i + 1):=List.drop_eq_getElem_cons hyi
    have hw:=F137_is xs[i] ys[i] (hxs _ (List.getElem_mem _)) (hys _ (List.getElem_mem _))
    by_cases hc:cmpW (bs xs[i]) (bs ys[i]) = 0
    ·obtain ⟨e,h | h⟩:=ih (i + 1) (by omega)
     ·obtain ⟨h1,h2⟩:=h
      refine ⟨e,.inl ⟨loop_step ?_ h1,?_⟩⟩
      ·rw [B135_0_eq]
       simp only [e1,e2,e4,cond_true,cond_false,Int.toNat_natCast,e3,e5,Option.bind_some,hw,hc]
       rw [show IntKind.wrap IntKind.i64 ((i:Int) + Int.ofNat 1) = ((i + 1:Nat):Int) from wrap64s i (by omega)]
       rfl
      ·rw [h2,hdx,hdy]
       simp only [List.map_cons,listC,orC,hc,if_true]
     ·omega
    ·refine ⟨.inl (cmpW (bs xs[i]) (bs ys[i]),()),.inl ⟨loop_end ?_,?_⟩⟩
     ·rw [B135_0_eq]
      have:(cmpW (bs xs[i]) (bs ys[i]) == Int.ofNat 0) = false:=by simpa using hc
      simp only [e1,e2,e4,cond_true,cond_false,Int.toNat_natCast,e3,e5,Option.bind_some,hw,this,Bool.not_false]
     ·rw [hdx,hdy]
      simp only [List.map_cons,listC,orC,hc,if_false,Sum.elim_inl]
   ·have e4:decide ((i:Int) ≥ Int.ofNat ys.length) = true:=by simp; omega
    refine ⟨.inl (1,()),.inl ⟨loop_end ?_,?_⟩⟩
    ·rw [B135_0_eq]
     simp only [e1,e2,e4,cond_true,Int.toNat_natCast,e3,Option.bind_some]
     rfl
    ·rw [hdx,List.drop_of_length_le (l:=ys) (by omega)]
     rfl
 obtain ⟨e,h | h⟩:=key xs.length 0 (by omega)
 ·obtain ⟨h1,h2⟩:=h
  have h1':loop B135_0 (xs,ys,xs,Int.ofNat xs.length,Int.ofNat 0,()) = some e:=h1
  rw [h1']
  simp only [Option.bind_some,List.drop_zero] at h2 ⊢
  exact h2
 ·omega
theorem splitDot_sizes (s:ByteArray):∀ x ∈ splitDot s,x.size ≤ s.size:=by
 have key:∀ l:List UInt8,∀ w ∈ splitB 46 l,w.length ≤ l.length:=by
  intro l
  induction l with
  | nil => intro w hw; simp [splitB] at hw; subst hw; simp
  | cons x l ih =>
   intro w hw
   unfold splitB at hw
   split at hw
   ·rcases List.mem_cons.1 hw with rfl | hw
    ·simp
    ·have:=ih w hw; simp; omega
   ·split at hw
    ·simp at hw; subst hw; simp
    ·rename_i v vs hs
     rcases List.mem_cons.1 hw with rfl | hw
     ·have:=ih v (by rw [hs]; simp); simp; omega
     ·have:=ih w (by rw [hs]; simp [hw]); simp; omega
 intro x hx
 unfold splitDot at hx
 obtain ⟨w,h1,rfl⟩:=List.mem_map.1 hx
 have:=key _ w h1
 rw [bs_size,bs_size s,bs_lit]
 exact this
theorem F80_is (a b:ByteArray) (ha:a.size ≤ 1099511627000) (hb:b.size ≤ 1099511627000):F80 (a,b,()) = some (cmpP (bs a) (bs b),()):=by
 rw [F80_eq]
 simp only [bs_toList]
 unfold cmpP preKey
 by_cases h1:bs a = bs b
 ·simp only [h1,beq_self_eq_true,cond_true]
  simp [orC,cmpI,lin_cmpW.list.self]
 ·have e1:(bs a == bs b) = false:=by simpa using h1
  rw [e1]
  simp only [cond_false]
  by_cases h2:bs a = []
  ·have h3:bs b ≠ []:=fun h => h1 (by rw [h2,h])
   simp [h2,h3,orC,cmpI]
  ·have e2:(bs a == []) = false:=by simpa using h2
   rw [e2]
   simp only [cond_false]
   by_cases h3:bs b = []
   ·simp [h2,h3,orC,cmpI]
   ·have e3:(bs b == []) = false:=by simpa using h3
    have hd:lit [46] = dot:=rfl
    have hla:(splitDot a).length ≤ 1099511627776:=by
     unfold splitDot
     rw [List.length_map,splitB_length]
     have:(bs a).count 46 ≤ (bs a).length:=List.count_le_length
     rw [← bs_size] at this
     omega
    rw [e3,hd,F136_dot a (by omega),F136_dot b (by omega)]
    simp only [cond_false,Option.bind_some]
    rw [F135_is _ _ hla (fun x hx => by have:=splitDot_sizes a x hx; omega) (fun x hx => by have:=splitDot_sizes b x hx; omega)]
    have hm:∀ s,(splitDot s).map bs = splitB 46 (bs s):=fun s => by
     unfold splitDot
     rw [List.map_map]
     have:(bs ∘ lit) = id:=by funext x; rfl
     rw [this,List.map_id]
    simp [h2,h3,orC,cmpI,hm]
theorem or4 (c1 c2 c3 c4:Int):(([c1,c2,c3,c4].find? (· != 0)).getD 0) = orC c1 (orC c2 (orC c3 c4)):=by
 unfold orC
 by_cases h1:c1 = 0
 ·by_cases h2:c2 = 0
  ·by_cases h3:c3 = 0
   ·by_cases h4:c4 = 0 <;> simp [h1,h2,h3,h4]
   ·simp [h1,h2,h3]
  ·simp [h1,h2]
 ·simp [h1]
def okV (v:Ver):Bool:=decide (v.2.2.2.1.size ≤ 1099511627000)
def okR (r:Req):Bool:=decide (r.1.size ≤ 1099511627000) && okV r.2
theorem F45_is (a b:Ver) (ha:okV a = true) (hb:okV b = true):F45 (a.1,a.2.1,a.2.2.1,a.2.2.2.1,b.1,b.2.1,b.2.2.1,b.2.2.2.1,()) = some (cmpV a b,()):=by
 rw [F45_eq,F79_is,F79_is,F79_is,F80_is _ _ (by simpa [okV] using ha) (by simpa [okV] using hb)]
 simp only [Option.bind_some]
 rw [F78_is _ (by simp)]
 simp only [Option.bind_some,cmpV,verKey,or4]
theorem F36_is (a b:ByteArray):F36 (a,b,()) = some (cmpT (bs a) (bs b),()):=by
 rw [F36_eq,F66_eq]
 simp only [Option.bind_some]
 rw [show xCompare a b = Lib.compareBytes (bs a) (bs b) from Lib.cmp_eq a b,compareBytes_eq]
theorem F131_is (a b:Req) (ha:okR a = true) (hb:okR b = true):F131 (toP r0 a (toP r0 b ())) = some (cmpR a b,()):=by
 simp only [okR,Bool.and_eq_true] at ha hb
 show F131 (a.1,a.2.1,a.2.2.1,a.2.2.2.1,a.2.2.2.2.1,b.1,b.2.1,b.2.2.1,b.2.2.2.1,b.2.2.2.2.1,()) = _
 refine (F131_eq _ _ _ _ _ _ _ _ _ _).trans ?_
 rw [F36_is,F45_is a.2 b.2 ha.2 hb.2]
 simp only [Option.bind_some]
 have hc:cmpR a b = orC (cmpT (bs a.1) (bs b.1)) (cmpV a.2 b.2):=rfl
 rw [hc]
 generalize cmpT (bs a.1) (bs b.1) = c
 by_cases h:c = 0
 ·subst h; rfl
 ·have:(c == Int.ofNat 0) = false:=by simpa using h
  rw [this]
  simp [orC,h]
end Go.Vx.Z
/-! Pieces of a line: lists of pieces, put in order. -/
namespace Go.Vx.Pc
set_option linter.unusedVariables false
def mem {α:Type} [LE α] [LT α] (l:List (α × α)) (x:α):Prop:=∃ p ∈ l,p.1 ≤ x ∧ x < p.2
def Nm {α:Type} [LT α] (l:List (α × α)):Prop:=l.Pairwise (fun p q => p.2 < q.1) ∧ ∀ p ∈ l,p.1 < p.2
theorem mem_nil {α:Type} [LE α] [LT α] [Std.LawfulOrderLT α] [Std.IsLinearOrder α] (x:α):¬ mem [] x:=by simp [mem]
theorem mem_cons {α:Type} [LE α] [LT α] [Std.LawfulOrderLT α] [Std.IsLinearOrder α] {p:α × α} {l:List (α × α)} {x:α}:mem (p :: l) x ↔ (p.1 ≤ x ∧ x < p.2) ∨ mem l x:=by simp [mem]
theorem mem_append {α:Type} [LE α] [LT α] [Std.LawfulOrderLT α] [Std.IsLinearOrder α] {a b:List (α × α)} {x:α}:mem (a ++ b) x ↔ mem a x ∨ mem b x:=by
 induction a with
 | nil => simp [mem_nil]
 | cons p a ih => rw [List.cons_append,mem_cons,mem_cons,ih,or_assoc]
theorem nm_cons {α:Type} [LE α] [LT α] [Std.LawfulOrderLT α] [Std.IsLinearOrder α] {p:α × α} {l:List (α × α)}:Nm (p :: l) ↔ p.1 < p.2 ∧ (∀ q ∈ l,p.2 < q.1) ∧ Nm l:=by
 simp only [Nm,List.pairwise_cons,List.mem_cons,forall_eq_or_imp]
 constructor
 ·rintro ⟨⟨h1,h2⟩,h3,h4⟩; exact ⟨h3,h1,h2,h4⟩
 ·rintro ⟨h3,h1,h2,h4⟩; exact ⟨⟨h1,h2⟩,h3,h4⟩
def mrg {α:Type} [LE α] [LT α] [DecidableLE α] [DecidableLT α] (acc:List (α × α)) (p:α × α):List (α × α):=
 match acc.getLast? with
 | none => [p]
 | some q => if p.1 ≤ q.2 then (if q.2 < p.2 then acc.dropLast ++ [(q.1,p.2)] else acc) else acc ++ [p]
theorem nm_append {α:Type} [LE α] [LT α] [Std.LawfulOrderLT α] [Std.IsLinearOrder α] {a:List (α × α)} {q:α × α}:Nm (a ++ [q]) ↔ Nm a ∧ q.1 < q.2 ∧ ∀ r ∈ a,r.2 < q.1:=by
 simp only [Nm,List.pairwise_append,List.mem_append,List.mem_singleton,List.pairwise_cons,List.not_mem_nil,false_imp_iff,implies_true,List.Pairwise.nil,and_true,true_and,forall_eq]
 constructor
 ·rintro ⟨⟨h1,h2⟩,h3⟩
  exact ⟨⟨h1,fun p hp => h3 p (.inl hp)⟩,h3 q (.inr rfl),h2⟩
 ·rintro ⟨⟨h1,h4⟩,h2,h3⟩
  refine ⟨⟨h1,h3⟩,fun p hp => ?_⟩
  rcases hp with hp | rfl
  ·exact h4 p hp
  ·exact h2
theorem mrg_ok {α:Type} [LE α] [LT α] [Std.LawfulOrderLT α] [Std.IsLinearOrder α] [DecidableLE α] [DecidableLT α] {acc:List (α × α)} {p:α × α} (hn:Nm acc) (hp:p.1 < p.2) (hs:∀ q ∈ acc,q.1 ≤ p.1) :
  Nm (mrg acc p) ∧ (∀ x,mem (mrg acc p) x ↔ mem acc x ∨ (p.1 ≤ x ∧ x < p.2)) ∧ ∀ q ∈ mrg acc p,q.1 ≤ p.1:=by
 unfold mrg
 rcases List.eq_nil_or_concat acc with rfl | ⟨a,q,rfl⟩
 ·refine ⟨nm_cons.2 ⟨hp,by simp,by simp [Nm]⟩,fun x => by simp [mem_cons,mem_nil],by grind⟩
 ·rw [List.concat_eq_append] at *
  obtain ⟨n1,n2,n3⟩:=nm_append.1 hn
  have hq:=hs q (by simp)
  simp only [List.getLast?_append,List.getLast?_singleton,Option.some_or,List.dropLast_concat]
  by_cases h1:p.1 ≤ q.2
  ·rw [if_pos h1]
   by_cases h2:q.2 < p.2
   ·rw [if_pos h2]
    refine ⟨nm_append.2 ⟨n1,by grind,n3⟩,fun x => ?_,fun r hr => ?_⟩
    ·rw [mem_append,mem_append,mem_cons,mem_cons]
     have:=mem_nil x
     constructor
     ·rintro (h | h | h)
      ·exact .inl (.inl h)
      ·by_cases h3:x < q.2
       ·exact .inl (.inr (.inl ⟨h.1,h3⟩))
       ·exact .inr (by grind)
      ·exact absurd h this
     ·rintro ((h | h | h) | h)
      ·exact .inl h
      ·exact .inr (.inl (by grind))
      ·exact absurd h this
      ·exact .inr (.inl (by grind))
    ·rcases List.mem_append.1 hr with h | h
     ·exact hs r (by simp [h])
     ·simp only [List.mem_singleton] at h; subst h; exact hq
   ·rw [if_neg h2]
    refine ⟨hn,fun x => ⟨.inl,?_⟩,hs⟩
    rintro (h | h)
    ·exact h
    ·exact mem_append.2 (.inr (mem_cons.2 (.inl (by grind))))
  ·rw [if_neg h1]
   refine ⟨nm_append.2 ⟨hn,hp,fun r hr => ?_⟩,fun x => ?_,fun r hr => ?_⟩
   ·rcases List.mem_append.1 hr with h | h
    ·have:=n3 r h; grind
    ·simp only [List.mem_singleton] at h; subst h; grind
   ·rw [mem_append,mem_cons]
    simp [mem_nil]
   ·rcases List.mem_append.1 hr with h | h
    ·exact hs r h
    ·simp only [List.mem_singleton] at h; subst h; grind
theorem fold_ok {α:Type} [LE α] [LT α] [Std.LawfulOrderLT α] [Std.IsLinearOrder α] [DecidableLE α] [DecidableLT α]:∀ (s acc:List (α × α)),Nm acc → (∀ p ∈ s,p.1 < p.2) → s.Pairwise (fun p q => p.1 ≤ q.1) → (∀ q ∈ acc,∀ p ∈ s,q.1 ≤ p.1) →
  Nm (s.foldl mrg acc) ∧ ∀ x,mem (s.foldl mrg acc) x ↔ mem acc x ∨ mem s x
 | [],acc,hn,_,_,_ => ⟨hn,fun x => by simp [mem_nil]⟩
 | p :: s,acc,hn,hp,hs,ha => by
  obtain ⟨s1,s2⟩:=List.pairwise_cons.1 hs
  obtain ⟨m1,m2,m3⟩:=mrg_ok hn (hp p (by simp)) (fun q hq => ha q hq p (by simp))
  obtain ⟨r1,r2⟩:=fold_ok s (mrg acc p) m1 (fun q hq => hp q (by simp [hq])) s2 fun q hq r hr => by
   have e1:=m3 q hq
   have e2:=s1 r hr
   grind
  refine ⟨r1,fun x => ?_⟩
  rw [List.foldl_cons,r2,m2,mem_cons,or_assoc]
/-! Both, none. -/
end Go.Vx.Pc
/-! Places between versions. -/
namespace Go.Vx
open Go Go.Proofs
set_option linter.unusedVariables false
structure Pt where
 e:Int
 v:Ver
 b:Int
def Pt.key (p:Pt):Int × Ver × Int:=(p.e,p.v,p.b)
def Pt.c (p q:Pt):Int:=(fun (x y:Int × Ver × Int) => orC (cmpI x.1 y.1) (orC (cmpV x.2.1 y.2.1) (cmpI x.2.2 y.2.2))) p.key q.key
theorem lin_pt:Lin Pt.c:=(lin_cmpI.prod (lin_cmpV.prod lin_cmpI)).pull Pt.key fun x y h => by
 cases x; cases y
 simp only [Pt.key,Prod.mk.injEq] at h
 obtain ⟨h1,h2,h3⟩:=h
 rw [h1,h2,h3]
theorem Lin.lt_trans {α:Type} {c:α → α → Int} (h:Lin c) {x y z:α} (h1:c x y ≤ 0) (h2:c y z ≤ 0):c x z ≤ 0:=by
 rcases h.rng x y with e | e | e
 ·rcases h.rng y z with f | f | f
  ·rw [h.trans x y z e f]; omega
  ·rw [← (h.eq0 y z).1 f]; omega
  ·omega
 ·rw [(h.eq0 x y).1 e]; exact h2
 ·omega
instance:LE Pt:=⟨fun a b => a.c b ≤ 0⟩
instance:LT Pt:=⟨fun a b => a.c b < 0⟩
theorem pt_le {a b:Pt}:a ≤ b ↔ a.c b ≤ 0:=Iff.rfl
theorem pt_lt {a b:Pt}:a < b ↔ a.c b < 0:=Iff.rfl
instance:DecidableLE Pt:=fun a b => inferInstanceAs (Decidable (a.c b ≤ 0))
instance:DecidableLT Pt:=fun a b => inferInstanceAs (Decidable (a.c b < 0))
instance:Std.IsLinearOrder Pt where
 le_refl a:=by rw [pt_le,lin_pt.self]; omega
 le_trans a b c:=fun h1 h2 => lin_pt.lt_trans h1 h2
 le_antisymm a b:=fun h1 h2 => by
  rw [pt_le] at *
  rw [lin_pt.anti a b] at h2
  exact (lin_pt.eq0 a b).1 (by omega)
 le_total a b:=by
  rw [pt_le,pt_le,lin_pt.anti a b]; omega
instance:Std.LawfulOrderLT Pt where
 lt_iff a b:=by rw [pt_lt,pt_le,pt_le,lin_pt.anti a b]; omega
namespace Z
def v0:Ver:=(0,0,0,lit [],())
def ptOf (v:Ver) (b e:Bool):Pt:=if e then ⟨1,v0,0⟩ else ⟨0,v,if b then 1 else 0⟩
abbrev Piece:=Int × Int × Int × ByteArray × Bool × Bool × Int × Int × Int × ByteArray × Bool × Bool × Unit
def Piece.fv (p:Piece):Ver:=(p.1,p.2.1,p.2.2.1,p.2.2.2.1,())
def Piece.tv (p:Piece):Ver:=(p.2.2.2.2.2.2.1,p.2.2.2.2.2.2.2.1,p.2.2.2.2.2.2.2.2.1,p.2.2.2.2.2.2.2.2.2.1,())
def Piece.fb (p:Piece):Bool:=p.2.2.2.2.1
def Piece.fe (p:Piece):Bool:=p.2.2.2.2.2.1
def Piece.te (p:Piece):Bool:=p.2.2.2.2.2.2.2.2.2.2.2.1
def Piece.fp (p:Piece):Pt:=ptOf p.fv p.fb p.fe
def okPc (p:Piece):Bool:=okV p.fv && okV p.tv
theorem F163_is (b:Bool):F163 (b,()) = some ((if b then 1 else 0),()):=by cases b <;> rfl
theorem or2 (a b:Int):F78 ([a,b],()) = some (orC a b,()):=by
 rw [F78_is _ (by simp)]
 congr 2
 simp only [List.find?_cons,List.find?_nil,orC]
 by_cases h1:a = 0
 ·subst h1
  by_cases h2:b = 0
  ·subst h2; rfl
  ·have:(b != 0) = true:=by simpa using h2
   simp [this]
 ·have:(a != 0) = true:=by simpa using h1
  simp [this,h1]
theorem sub_cmp (a b:Bool):IntKind.wrap IntKind.i64 ((if a then (1:Int) else 0) - (if b then 1 else 0)) = cmpI (if a then 1 else 0) (if b then 1 else 0):=by
 cases a <;> cases b <;> decide
theorem F102_is (u v:Ver) (a b c d:Bool) (hu:okV u = true) (hv:okV v = true):F102 (u.1,u.2.1,u.2.2.1,u.2.2.2.1,a,b,v.1,v.2.1,v.2.2.1,v.2.2.2.1,c,d,()) = some ((ptOf u a b).c (ptOf v c d),()):=by
 rw [F102_eq]
 simp only [F163_is,Option.bind_some,sub_cmp]
 cases b with
 | true =>
  simp only [cond_true,ptOf,if_true]
  cases d with
  | true => simp only [if_true,lin_pt.self,lin_cmpI.self]
  | false =>
   simp only [Bool.false_eq_true,if_false,Pt.c,Pt.key]
   congr 1
 | false =>
  cases d with
  | true =>
   simp only [cond_true,cond_false,ptOf,if_true,Bool.false_eq_true,if_false,Pt.c,Pt.key]
   congr 1
  | false =>
   simp only [cond_false,ptOf,Bool.false_eq_true,if_false,Pt.c,Pt.key]
   rw [F45_is u v hu hv,Option.bind_some,or2,Option.bind_some]
   have:cmpI 0 0 = 0:=by decide
   rw [this]
   simp only [orC,if_true]
def cmpPc (p q:Piece):Int:=p.fp.c q.fp
theorem F212_is (p q:Piece) (hp:okPc p = true) (hq:okPc q = true):F212 (toP r9 p (toP r9 q ())) = some (cmpPc p q,()):=by
 simp only [okPc,Bool.and_eq_true] at hp hq
 show F212 (p.1,p.2.1,p.2.2.1,p.2.2.2.1,p.2.2.2.2.1,p.2.2.2.2.2.1,p.2.2.2.2.2.2.1,p.2.2.2.2.2.2.2.1,p.2.2.2.2.2.2.2.2.1,p.2.2.2.2.2.2.2.2.2.1,p.2.2.2.2.2.2.2.2.2.2.1,p.2.2.2.2.2.2.2.2.2.2.2.1,q.1,q.2.1,q.2.2.1,q.2.2.2.1,q.2.2.2.2.1,q.2.2.2.2.2.1,q.2.2.2.2.2.2.1,q.2.2.2.2.2.2.2.1,q.2.2.2.2.2.2.2.2.1,q.2.2.2.2.2.2.2.2.2.1,q.2.2.2.2.2.2.2.2.2.2.1,q.2.2.2.2.2.2.2.2.2.2.2.1,()) = _
 rw [F212_eq]
 have:=F102_is p.fv q.fv p.fb p.fe q.fb q.fe hp.1 hq.1
 simp only [Piece.fv,Piece.fb,Piece.fe] at this
 rw [this]
 rfl
theorem swo_pc:Sort.SWO (ltOf cmpPc):=swo_at lin_pt.swo Piece.fp
end Z
end Go.Vx
/-! slices.SortFunc over a part of an own list. -/
namespace Go.Vx
open Go Go.RowKit Go.Proofs Go.Shelf Go.Sort
set_option linter.unusedVariables false
set_option linter.unusedSimpArgs false
@[reducible] def shSortP (e:Nat) (r:Ty) (g:Nat):Shape:=⟨[(0,.one (.os 100000 r.width)),(1,.one (.fn g))],[(100000,.lst e r false)]⟩
def FSortP (r:Ty) (e g:Nat) (ok:r.D → Bool) (cf:r.D → r.D → Int):(shSortP e r g).D → Option (outSort e r).D:=fun p =>
 bif Nat.beq p.1 0 && (Nat.ble p.2.1 p.2.2.1.length && ((p.2.2.1.take p.2.1).all ok && decide ((p.2.2.1.take p.2.1).length < 4611686018427387904))) then some (sortBy cf (p.2.2.1.take p.2.1) ++ p.2.2.1.drop p.2.1,()) else none
section
variable {P:Program} {ρ:Shelf.Ren}
theorem sort_part_ok (L:SlLaysF0.n6 P ρ) (none_ok:∀ (p:Option Addr) (cap:Nat) (fv:Value) (w:World),Calls P (ρ.f 6) #[.slice p 0 cap,fv] w fun e w' => e = .returned (.tuple #[]) ∧ w' = w)
  (ents:∀ args w,(callFunc (ρ.f 6) args).run P w = .ok (.enter (ρ.f 6) args) w)
  {r:Ty} {e g:Nat} (aE:∀ w,(Go.isAgg (ρ.t 24)).run P w = .ok true w) (zE:∀ w,(Go.sizeOf (ρ.t 24)).run P w = .ok r.width w)
  {Fc:(shCmp r).D → Option outI.D} (hc:FEOK P ⟨g,shCmp r,outI,Fc⟩) (eg:∀ args w,(callFunc g args).run P w = .ok (.enter g args) w)
  (cf:r.D → r.D → Int) (ok:r.D → Bool) (hcf:∀ x y,ok x = true → ok y = true → Fc (toP r x (toP r y ())) = some (cf x y,())) (hO:SWO (ltOf cf)) :
  FEOK P ⟨ρ.f 6,shSortP e r g,outSort e r,FSortP r e g ok cf⟩:=by
 intro p res hF gh w args hsz hH hargs hgd
 obtain ⟨lo,hi,zs,u⟩:=p
 unfold FSortP at hF
 simp only at hF
 cases hcond:(Nat.beq lo 0 && (Nat.ble hi zs.length && ((zs.take hi).all ok && decide ((zs.take hi).length < 4611686018427387904)))) with
 | false => rw [hcond] at hF; cases hF
 | true =>
 rw [hcond] at hF
 simp only [cond_true,Option.some.injEq] at hF
 subst hF
 rw [Bool.and_eq_true,Bool.and_eq_true,Bool.and_eq_true,decide_eq_true_eq,List.all_eq_true] at hcond
 obtain ⟨hlo,hhi,hok,hlen⟩:=hcond
 obtain rfl:lo = 0:=Nat.eq_of_beq_eq_true hlo
 have hhi:hi ≤ zs.length:=Nat.le_of_ble_eq_true hhi
 have hm:(embed (shSortP e r g) (0,hi,zs,u)).blk 100000 = some (.lst e r zs false):=rfl
 obtain ⟨h1a,_,a0,n0,c0,pa,pc,hval,hin,h1b,hcap,_,hsome,_⟩:RepC gh (embed (shSortP e r g) (0,hi,zs,u)).blk w (.os 100000 0 hi r.width) (args.getD 0 undef):=hargs 0
 have h2:args.getD 1 undef = .func (.func g) #[] #[]:=hargs 1
 have hargs2:args = #[.slice pa (hi - 0) pc,.func (.func g) #[] #[]]:=by
  have hsz:args.size = 2:=hsz
  apply Array.ext
  ·simpa using hsz
  ·intro i q1 q2
   simp at q2
   match i,q2 with
   | 0,_ => simpa [Array.getD,q1] using h1b
   | 1,_ => simpa [Array.getD,q1] using h2
 obtain ⟨vs0,hown,hvs0,hw0,_⟩:=hH.blk 100000 _ hm
 refine .inr ⟨ents _ _,?_⟩
 rw [hargs2]
 -- the end, from a world that holds the new row
 have fin:∀ (w':World) (ys:List r.D) (vs':List Value) (gb:Nat),gh.blk 100000 = some gb → w.grownBy w' (some gb) → w.drawn ≤ w'.drawn → w'.rowR 0 e r.width (gh.val 100000) ys.length vs' → RepCs gh (embed (shSortP e r g) (0,hi,zs,u)).blk w (rowsCells r ys) vs' →
   Ret (outSort e r) (ys,()) gh (embed (shSortP e r g) (0,hi,zs,u)).blk w (.tuple #[]) w':=by
  intro w' ys vs' gb hgb hG hdr ho hr
  have hput:=heap_put hH hm rfl (b':=.lst e r ys false) rfl hgb (fun x h => by obtain ⟨h,_⟩:=h; cases h) hdr hG (fun hc hext => by
   exact ⟨vs',ho,repCs_mono (g:=gh) (g':=gh) (m:=(embed (shSortP e r g) (0,hi,zs,u)).blk) (fun _ h => h) hc hext hr,hw0,fun hf => by cases hf⟩)
  obtain ⟨hH2,hT2,_⟩:=hput
  have hme:upd (embed (shSortP e r g) (0,hi,zs,u)).blk 100000 (.lst e r ys false) = (embed (outSort e r) (ys,())).blk:=by
   funext i
   show (bif Nat.beq 100000 i then some _ else lookM i _) = lookM i _
   simp only [embed,emMem,emBlk,lookM]
   cases Nat.beq 100000 i <;> rfl
  rw [hme] at hH2 hT2
  exact ⟨gh,hH2,hT2,⟨#[],rfl,.nil⟩⟩
 rw [show hi - 0 = hi from Nat.sub_zero hi] at *
 by_cases hz:hi = 0
 ·subst hz
  refine Calls.mono (none_ok _ pc _ w) fun ev w' ⟨he,hw⟩ => ⟨_,he,?_⟩
  subst hw
  have hme:(embed (shSortP e r g) (0,0,zs,u)).blk = (embed (outSort e r) (sortBy cf (zs.take 0) ++ zs.drop 0,())).blk:=by funext i; rfl
  refine ⟨gh,?_,?_,⟨#[],rfl,.nil⟩⟩
  ·rw [← hme]; exact hH
  ·rw [← hme]; exact Tr.refl _ _ _
 rcases hown.2 with ⟨hv,h0⟩ | ⟨gb,cap,cur,hv,_,hg,hnc,hcm,hcs,htk⟩
 ·omega
 ·have hgb:gh.blk 100000 = some gb:=by simp [Gh.blk,hv,blockOfV]
  have hglt:gb < w.heap.size:=(Array.getElem?_eq_some_iff.1 hg).1
  obtain ⟨bb,hb1,hb2⟩:=hsome (by omega)
  have hpa:pa = some ⟨gb,0,none⟩:=by
   rw [hv] at hval
   injection hval with e1 e2 e3
   rw [hb1] at e1
   injection e1 with e1
   injection e1 with e1
   rw [hb2,Nat.zero_mul,e1]
  rw [hpa]
  have hvs:RepCs gh (embed (shSortP e r g) (0,hi,zs,u)).blk w (rowsCells r (zs.take hi)) (vs0.take (hi * r.width)):=by
   rw [← rowsCells_take zs hi hhi]; exact hvs0.take _
  have hvl0:vs0.length = zs.length * r.width:=hown.1
  have hvl1:(vs0.take (hi * r.width)).length = hi * r.width:=by
   rw [List.length_take,hvl0]
   exact Nat.min_eq_left (Nat.mul_le_mul_right _ hhi)
  have hXl:(zs.take hi).length = hi:=by rw [List.length_take]; omega
  have hvat:∀ j,j < hi * r.width → (vs0.take (hi * r.width))[j]? = vs0[j]?:=fun j hj => by rw [List.getElem?_take,if_pos hj]
  generalize hvs1:vs0.take (hi * r.width) = vs at hvs hvl1 hvat
  generalize hxs1:zs.take hi = xs at hvs hXl hok hlen
  cases xs with
  | nil => simp at hXl; omega
  | cons x0 l =>
   generalize hX:x0 :: l = X at *
   have hX0:0 < X.length:=by rw [← hX]; simp
   have hvl:vs.length = X.length * r.width:=by rw [hXl,hvl1]
   have hclamp:∀ i,(if i < X.length then i else 0) < X.length:=fun i => by split <;> omega
   have henc:∀ i,(vsAt r.width vs X.length i).length = r.width:=fun i => by
    unfold vsAt
    rw [List.length_take,List.length_drop,hvl]
    have:=Nat.mul_le_mul_right r.width (show (if i < X.length then i else 0) + 1 ≤ X.length from hclamp i)
    rw [Nat.add_mul,Nat.one_mul] at this
    omega
   have hrep:∀ i,RepCs gh (embed (shSortP e r g) (0,hi,zs,u)).blk w (cellsOf r (X.getD i x0)) (vsAt r.width vs X.length i):=fun i => by
    unfold vsAt
    have hi:=hclamp i
    have hgx:X[if i < X.length then i else 0]? = some (X.getD i x0):=by
     split
     ·rename_i hlt; simp [List.getD,hlt]
     ·rename_i hlt
      rw [show X.getD i x0 = x0 by simp [List.getD,Nat.le_of_not_lt hlt],← hX]
      rfl
    rw [← rowsCells_at X _ _ hgx]
    exact (hvs.drop _).take _
   have hone:∀ i,∀ v ∈ vsAt r.width vs X.length i,v.oneCell' = true:=fun i => repCs_one (hrep i) (cellsOf_ok _)
   have hokX:∀ i,ok (X.getD i x0) = true:=fun i => by
    refine hok _ ?_
    by_cases hlt:i < X.length
    ·simp only [List.getD,List.getElem?_eq_getElem hlt,Option.getD_some]; exact List.getElem_mem hlt
    ·rw [show X.getD i x0 = x0 by simp [List.getD,Nat.le_of_not_lt hlt],← hX]; simp
   let cI:Nat → Nat → Int:=fun i j => cf (X.getD i x0) (X.getD j x0)
   have hOI:SWO (ltOf cI):=swo_at hO fun i => X.getD i x0
   have hflat:(flatK (vsAt r.width vs X.length) r.width (Array.range X.length)).toList = vs:=by
    rw [flatK_toList _ _ henc,Array.toList_range]
    have key:∀ n,n ≤ X.length → (List.range n).flatMap (vsAt r.width vs X.length) = vs.take (n * r.width):=by
     intro n
     induction n with
     | zero => intro _; simp
     | succ n ih =>
      intro hn
      rw [List.range_succ,List.flatMap_append,ih (by omega),List.flatMap_cons,List.flatMap_nil,List.append_nil]
      unfold vsAt
      rw [if_pos (by omega),Nat.add_mul,Nat.one_mul,List.take_add]
    rw [key _ (Nat.le_refl _),← hvl,List.take_length]
   have hHK:HoldsK (vsAt r.width vs X.length) r.width w gb 0 (Array.range X.length):=by
    intro j hj
    rw [size_flatK,Array.size_range] at hj
    rw [Nat.zero_add]
    have hown':w.rowR 0 e r.width (.slice (some ⟨gb,0,none⟩) zs.length cap) zs.length vs0:=by rw [← hv]; exact hown
    have hjz:j < zs.length * r.width:=Nat.lt_of_lt_of_le (by rw [← hXl]; exact hj) (Nat.mul_le_mul_right _ hhi)
    refine ⟨?_,hown'.frozenAt j⟩
    rw [hown'.cellAt j hjz,← hvat j (by rw [← hXl]; exact hj)]
    have e1:=get_flatK (vsAt r.width vs X.length) r.width (Array.range X.length) j (by simpa using hj)
    have hlt:j < (flatK (vsAt r.width vs X.length) r.width (Array.range X.length)).size:=by simpa using hj
    rw [getElem!_pos _ j hlt,← Array.getElem_toList]
    simp only [hflat]
    rw [List.getElem?_eq_getElem (by rw [hvl]; exact hj)]
    rfl
   -- the stable cells lie elsewhere
   have hng:∀ x,gh.S x → x.block ≠ gb:=fun x hx e' => by
    have:=hH.sep x hx 100000 _ hm (by rw [hgb,e'])
    obtain ⟨h,_⟩:=this
    cases h
   have hheap:∀ m os dk k,k ≠ gb → k < w.heap.size → (sortWorldK (vsAt r.width vs X.length) r.width w gb 0 m dk os).heap[k]? = w.heap[k]?:=by
    intro m os dk k hk hlt
    unfold sortWorldK putRowK putRow mapBlock grow Sort.ahead
    simp only
    rw [Array.getElem?_append_left (by simpa using hlt),Array.getElem?_modify,if_neg (Ne.symm hk)]
   have hsize:∀ m os dk,w.heap.size ≤ (sortWorldK (vsAt r.width vs X.length) r.width w gb 0 m dk os).heap.size:=by
    intro m os dk
    unfold sortWorldK putRowK putRow mapBlock grow Sort.ahead
    simp
   have hcell:∀ m os dk x,gh.S x → (sortWorldK (vsAt r.width vs X.length) r.width w gb 0 m dk os).cell? x = w.cell? x:=fun m os dk x hx =>
    World.cell?_of_block (hheap m os dk x.block (hng x hx) (hH.S_lt hx))
   have hcmp:CmpLays P g #[] (vsAt r.width vs X.length) r.width cI gb 0 (Array.range X.length).size w:=by
    intro m os dk hdk i j
    generalize hWd:sortWorldK (vsAt r.width vs X.length) r.width w gb 0 m dk os = W
    have hcW:∀ x,gh.S x → W.cell? x = w.cell? x:=fun x hx => by rw [← hWd]; exact hcell m os dk x hx
    have hHW:HeapOK gh (fun _ => none) W:=⟨⟨fun id b h => (by cases h),fun i j b c h => (by cases h),fun x hx id b h => (by cases h),fun x hx => by
     obtain ⟨q1,v,q2⟩:=hH.st x hx
     exact ⟨q1,v,by rw [hcW x hx]; exact q2⟩⟩,fun k cs hK => by
     obtain ⟨⟨e0,fz,g1⟩,g2⟩:=hH.gr k cs hK
     refine ⟨⟨e0,fz,?_⟩,fun id b h => (by cases h)⟩
     rw [← hWd,hheap _ _ _ k (fun e' => g2 100000 _ hm rfl (by rw [hgb,e'])) (Array.getElem?_eq_some_iff.1 g1).1]
     exact g1⟩
    have hrW:∀ i,RepCs gh (fun _ => none) W (cellsOf r (X.getD i x0)) (vsAt r.width vs X.length i):=fun i => by
     refine all2_of_mem (fun a ha v hv => ?_) (hrep i)
     obtain ⟨t,y,rfl⟩:=cellsOf_c ha
     exact repD_mono (S:=gh.S) (w:=w) (fun _ h => h) hcW (hv:RepD gh.S w t y v)
    have hFc:=hcf _ _ (hokX i) (hokX j)
    have henv:(embed (shCmp r) (toP r (X.getD i x0) (toP r (X.getD j x0) ()))).env = [(0,.v (.row (cellsOf r (X.getD i x0)))),(1,.v (.row (cellsOf r (X.getD j x0))))]:=by
     simp only [embed,emEnv,emA1,em_toP]
    have hdoes:=hc _ _ hFc gh W #[.agg (vsAt r.width vs X.length i).toArray,.agg (vsAt r.width vs X.length j).toArray] rfl hHW (fun t => by
     show RepV gh (fun _ => none) W (lookE t (embed (shCmp r) (toP r (X.getD i x0) (toP r (X.getD j x0) ()))).env) _
     rw [henv]
     match t with
     | 0 => exact ⟨_,rfl,by simpa using hrW i⟩
     | 1 => exact ⟨_,rfl,by simpa using hrW j⟩
     | t + 2 => trivial) hgd
    rcases hdoes with ⟨v,w',q1,_⟩ | ⟨_,q2⟩
    ·rw [eg] at q1; cases q1
    ·refine Calls.mono q2 fun ev w' ⟨v,he,gh',hH',hT',hres⟩ => ?_
     have hv':v = .int .i64 (cI i j):=hres
     refine ⟨by rw [he,hv'],?_⟩
     exact world_grown hT'.os hT'.tape hT'.output hT'.size (fun k hk => hT'.same k hk fun id b h => by cases h) hT'.drawn
   have hcon:=AnyQ.slices_SortFunc_eq L r.width aE zE (vsAt r.width vs X.length) henc hone cI hOI g #[] gb 0 pc (Array.range X.length) w eg hcmp hHK hglt (by simpa using hlen)
   rw [show (Array.range X.length).size = X.length by simp,show (Value.slice (some ⟨gb,0,none⟩) X.length pc) = Value.slice (some ⟨gb,0,none⟩) hi pc by rw [hXl]] at hcon
   refine Calls.mono hcon fun ev w' ⟨he,n,os,hw'⟩ => ⟨_,he,?_⟩
   -- the new row
   have hperm:=pdq_range hOI X.length
   generalize hD:Sort.pdq (ltOf cI) (Array.range X.length) 0 X.length (Lib.bitLen X.length) true true = D at hw'
   have hDl:sortIdx (ltOf cI) X.length = D.toList:=by rw [← hD]; rfl
   rw [hDl] at hperm
   have hDs:D.size = X.length:=by have:=hperm.length_eq; simpa using this
   have hys:sortBy cf X = D.toList.map fun i => X.getD i x0:=by
    rw [← hDl]
    have:∀ Y:List r.D,x0 :: l = Y → sortBy cf Y = (sortIdx (ltOf fun i j => cf (Y.getD i x0) (Y.getD j x0)) Y.length).map fun i => Y.getD i x0:=by
     intro Y hY
     subst hY
     rfl
    exact this X hX
   rw [hys]
   have hF:=flatK_toList (vsAt r.width vs X.length) r.width henc D
   have hFs:(flatK (vsAt r.width vs X.length) r.width D).size = X.length * r.width:=by rw [size_flatK,hDs]
   have hFl:(D.toList.flatMap (vsAt r.width vs X.length)).length = hi * r.width:=by rw [← hF,Array.length_toList,hFs,hXl]
   have hDl2:D.toList.length = hi:=by rw [← hXl,← hDs]; simp
   have hyl:(D.toList.map (fun i => X.getD i x0) ++ zs.drop hi).length = zs.length:=by
    rw [List.length_append,List.length_map,hDl2,List.length_drop]; omega
   have hmul:hi * r.width ≤ zs.length * r.width:=Nat.mul_le_mul_right _ hhi
   refine fin w' _ (D.toList.flatMap (vsAt r.width vs X.length) ++ vs0.drop (hi * r.width)) gb hgb ?_ ?_ ?_ ?_
   ·refine ⟨by rw [hw']; rfl,by rw [hw']; rfl,by rw [hw']; rfl,by rw [hw']; exact hsize n os D,fun k hk hne => by rw [hw']; exact hheap n os D k (fun e' => hne (by rw [e'])) hk⟩
   ·rw [hw']
    show w.drawn ≤ w.drawn + n
    omega
   ·rw [hv,hyl]
    refine ⟨by rw [List.length_append,hFl,List.length_drop,hvl0]; omega,.inr ⟨gb,cap,putCells id 0 (flatK (vsAt r.width vs X.length) r.width D) cur,rfl,Nat.zero_le _,?_,hnc,hcm,by unfold putCells; rw [Array.size_mapIdx]; exact hcs,?_⟩⟩
    ·rw [hw']
     unfold sortWorldK putRowK putRow mapBlock grow Sort.ahead
     simp only
     rw [Array.getElem?_append_left (by simpa using hglt),Array.getElem?_modify,if_pos rfl,hg]
     rfl
    ·apply List.ext_getElem?
     intro t
     rw [List.getElem?_take]
     have hle:zs.length * r.width ≤ cap * r.width:=Nat.mul_le_mul_right _ hnc
     split
     ·rename_i hlt
      have htc:t < cur.size:=by omega
      rw [Array.getElem?_toList]
      unfold putCells
      rw [Array.getElem?_mapIdx,Array.getElem?_eq_getElem htc]
      simp only [Option.map_some,Nat.zero_le,Nat.zero_add,true_and,Nat.sub_zero,id_eq]
      by_cases hth:t < hi * r.width
      ·have htF:t < (flatK (vsAt r.width vs X.length) r.width D).size:=by rw [hFs,hXl]; exact hth
       rw [if_pos htF,getElem!_pos _ t htF,List.getElem?_append_left (by rw [hFl]; exact hth),← hF,Array.getElem?_toList,Array.getElem?_eq_getElem htF]
      ·rw [if_neg (by rw [hFs,hXl]; exact hth),List.getElem?_append_right (by rw [hFl]; omega),hFl,List.getElem?_drop,show hi * r.width + (t - hi * r.width) = t by omega,← htk,List.getElem?_take,if_pos hlt,Array.getElem?_toList,Array.getElem?_eq_getElem htc]
     ·rename_i hlt
      rw [List.getElem?_eq_none (by rw [List.length_append,hFl,List.length_drop,hvl0]; omega)]
   ·have:∀ (M:List Nat),RepCs gh (embed (shSortP e r g) (0,hi,zs,u)).blk w (rowsCells r (M.map fun i => X.getD i x0)) (M.flatMap (vsAt r.width vs X.length)):=by
     intro M
     induction M with
     | nil => exact .nil
     | cons i M ih =>
      rw [List.map_cons,List.flatMap_cons]
      unfold rowsCells
      rw [List.flatMap_cons]
      exact All2.append (hrep i) ih
    rw [rowsCells_app,← rowsCells_drop zs hi hhi]
    exact All2.append (this _) (hvs0.drop _)
end
end Go.Vx
namespace Go.Proofs
open Go.Shelf
def Tryz.sortReq_ren:Go.Shelf.Ren:=⟨fun | 6 => 184 | 15 => 65 | 14 => 233 | 28 => 111 | 29 => 112 | 20 => 224 | 21 => 262 | 22 => 263 | 23 => 264 | 24 => 265 | 25 => 266 | 26 => 267 | 27 => 268 | 46 => 292 | 47 => 165 | 48 => 166 | 49 => 293 | 50 => 294 | 57 => 312 | n => n,fun | 22 => 57 | 24 => 68 | 25 => 141 | 3 => 3 | 39 => 134 | 0 => 0 | 53 => 197 | 55 => 199 | 4 => 4 | 46 => 191 | 45 => 190 | 50 => 97 | 5 => 5 | 9 => 9 | 66 => 247 | 70 => 230 | 76 => 275 | 77 => 276 | n => n,fun | n => n⟩
theorem Tryz.sortReq:Go.Proofs.SlLaysF0.n6 Tryz.prog Tryz.sortReq_ren:={
 mixed:=by kernel_rfl,
 f6:=⟨Tryz.f184.name,by decide,Tryz.func184.trans (congrArg some (by kernel_rfl))⟩,
 f14:=⟨Tryz.f233.name,by decide,Tryz.func233.trans (congrArg some (by kernel_rfl))⟩,
 f15:=Tryz.func65.trans (congrArg some (by kernel_rfl)),
 f20:=⟨Tryz.f224.name,by decide,Tryz.func224.trans (congrArg some (by kernel_rfl))⟩,
 f21:=⟨Tryz.f262.name,by decide,Tryz.func262.trans (congrArg some (by kernel_rfl))⟩,
 f22:=⟨Tryz.f263.name,by decide,Tryz.func263.trans (congrArg some (by kernel_rfl))⟩,
 f23:=⟨Tryz.f264.name,by decide,Tryz.func264.trans (congrArg some (by kernel_rfl))⟩,
 f24:=⟨Tryz.f265.name,by decide,Tryz.func265.trans (congrArg some (by kernel_rfl))⟩,
 f25:=⟨Tryz.f266.name,by decide,Tryz.func266.trans (congrArg some (by kernel_rfl))⟩,
 f26:=⟨Tryz.f267.name,by decide,Tryz.func267.trans (congrArg some (by kernel_rfl))⟩,
 f27:=⟨Tryz.f268.name,by decide,Tryz.func268.trans (congrArg some (by kernel_rfl))⟩,
 f28:=Tryz.func111.trans (congrArg some (by kernel_rfl)),
 f29:=Tryz.func112.trans (congrArg some (by kernel_rfl)),
 f46:=⟨Tryz.f292.name,by decide,Tryz.func292.trans (congrArg some (by kernel_rfl))⟩,
 f47:=Tryz.func165.trans (congrArg some (by kernel_rfl)),
 f48:=Tryz.func166.trans (congrArg some (by kernel_rfl)),
 f49:=⟨Tryz.f293.name,by decide,Tryz.func293.trans (congrArg some (by kernel_rfl))⟩,
 f50:=⟨Tryz.f294.name,by decide,Tryz.func294.trans (congrArg some (by kernel_rfl))⟩,
 f57:=⟨Tryz.f312.name,by decide,Tryz.func312.trans (congrArg some (by kernel_rfl))⟩,
 t0:=Tryz.underlying0,
 a0:=Tryz.isAgg0,
 z0:=Tryz.sizeOf0,
 v0:=Tryz.zeroValue0,
 t3:=Tryz.underlying3,
 a3:=Tryz.isAgg3,
 z3:=Tryz.sizeOf3,
 v3:=Tryz.zeroValue3,
 t4:=Tryz.underlying4,
 a4:=Tryz.isAgg4,
 z4:=Tryz.sizeOf4,
 v4:=Tryz.zeroValue4,
 t5:=Tryz.underlying5,
 a5:=Tryz.isAgg5,
 z5:=Tryz.sizeOf5,
 v5:=Tryz.zeroValue5,
 t9:=Tryz.underlying9,
 a9:=Tryz.isAgg9,
 z9:=Tryz.sizeOf9,
 v9:=Tryz.zeroValue9,
 t22:=Tryz.underlying57,
 a22:=Tryz.isAgg57,
 z22:=Tryz.sizeOf57,
 v22:=Tryz.zeroValue57,
 t25:=Tryz.underlying141,
 a25:=Tryz.isAgg141,
 z25:=Tryz.sizeOf141,
 v25:=Tryz.zeroValue141,
 t39:=Tryz.underlying134,
 a39:=Tryz.isAgg134,
 z39:=Tryz.sizeOf134,
 v39:=Tryz.zeroValue134,
 t45:=Tryz.underlying190,
 a45:=Tryz.isAgg190,
 z45:=Tryz.sizeOf190,
 v45:=Tryz.zeroValue190,
 t46:=Tryz.underlying191,
 a46:=Tryz.isAgg191,
 z46:=Tryz.sizeOf191,
 v46:=Tryz.zeroValue191,
 t50:=Tryz.underlying97,
 a50:=Tryz.isAgg97,
 z50:=Tryz.sizeOf97,
 v50:=Tryz.zeroValue97,
 t53:=Tryz.underlying197,
 a53:=Tryz.isAgg197,
 z53:=Tryz.sizeOf197,
 v53:=Tryz.zeroValue197,
 t55:=Tryz.underlying199,
 a55:=Tryz.isAgg199,
 z55:=Tryz.sizeOf199,
 v55:=Tryz.zeroValue199,
 t66:=Tryz.underlying247,
 a66:=Tryz.isAgg247,
 z66:=Tryz.sizeOf247,
 v66:=Tryz.zeroValue247,
 t70:=Tryz.underlying230,
 a70:=Tryz.isAgg230,
 z70:=Tryz.sizeOf230,
 v70:=Tryz.zeroValue230,
 t76:=Tryz.underlying275,
 a76:=Tryz.isAgg275,
 z76:=Tryz.sizeOf275,
 v76:=Tryz.zeroValue275,
 t77:=Tryz.underlying276,
 a77:=Tryz.isAgg276,
 z77:=Tryz.sizeOf276,
 v77:=Tryz.zeroValue276 }
def Tryz.sortWant_ren:Go.Shelf.Ren:=⟨fun | 6 => 34 | 15 => 65 | 14 => 64 | 28 => 111 | 29 => 112 | 20 => 103 | 21 => 104 | 22 => 105 | 23 => 106 | 24 => 107 | 25 => 108 | 26 => 109 | 27 => 110 | 46 => 164 | 47 => 165 | 48 => 166 | 49 => 167 | 50 => 168 | 57 => 215 | n => n,fun | 22 => 31 | 24 => 64 | 25 => 91 | 3 => 3 | 39 => 134 | 0 => 0 | 53 => 197 | 55 => 199 | 4 => 4 | 46 => 191 | 45 => 190 | 50 => 97 | 5 => 5 | 9 => 9 | 66 => 247 | 70 => 230 | 76 => 275 | 77 => 276 | n => n,fun | n => n⟩
theorem Tryz.sortWant:Go.Proofs.SlLaysF0.n6 Tryz.prog Tryz.sortWant_ren:={
 mixed:=by kernel_rfl,
 f6:=⟨Tryz.f34.name,by decide,Tryz.func34.trans (congrArg some (by kernel_rfl))⟩,
 f14:=⟨Tryz.f64.name,by decide,Tryz.func64.trans (congrArg some (by kernel_rfl))⟩,
 f15:=Tryz.func65.trans (congrArg some (by kernel_rfl)),
 f20:=⟨Tryz.f103.name,by decide,Tryz.func103.trans (congrArg some (by kernel_rfl))⟩,
 f21:=⟨Tryz.f104.name,by decide,Tryz.func104.trans (congrArg some (by kernel_rfl))⟩,
 f22:=⟨Tryz.f105.name,by decide,Tryz.func105.trans (congrArg some (by kernel_rfl))⟩,
 f23:=⟨Tryz.f106.name,by decide,Tryz.func106.trans (congrArg some (by kernel_rfl))⟩,
 f24:=⟨Tryz.f107.name,by decide,Tryz.func107.trans (congrArg some (by kernel_rfl))⟩,
 f25:=⟨Tryz.f108.name,by decide,Tryz.func108.trans (congrArg some (by kernel_rfl))⟩,
 f26:=⟨Tryz.f109.name,by decide,Tryz.func109.trans (congrArg some (by kernel_rfl))⟩,
 f27:=⟨Tryz.f110.name,by decide,Tryz.func110.trans (congrArg some (by kernel_rfl))⟩,
 f28:=Tryz.func111.trans (congrArg some (by kernel_rfl)),
 f29:=Tryz.func112.trans (congrArg some (by kernel_rfl)),
 f46:=⟨Tryz.f164.name,by decide,Tryz.func164.trans (congrArg some (by kernel_rfl))⟩,
 f47:=Tryz.func165.trans (congrArg some (by kernel_rfl)),
 f48:=Tryz.func166.trans (congrArg some (by kernel_rfl)),
 f49:=⟨Tryz.f167.name,by decide,Tryz.func167.trans (congrArg some (by kernel_rfl))⟩,
 f50:=⟨Tryz.f168.name,by decide,Tryz.func168.trans (congrArg some (by kernel_rfl))⟩,
 f57:=⟨Tryz.f215.name,by decide,Tryz.func215.trans (congrArg some (by kernel_rfl))⟩,
 t0:=Tryz.underlying0,
 a0:=Tryz.isAgg0,
 z0:=Tryz.sizeOf0,
 v0:=Tryz.zeroValue0,
 t3:=Tryz.underlying3,
 a3:=Tryz.isAgg3,
 z3:=Tryz.sizeOf3,
 v3:=Tryz.zeroValue3,
 t4:=Tryz.underlying4,
 a4:=Tryz.isAgg4,
 z4:=Tryz.sizeOf4,
 v4:=Tryz.zeroValue4,
 t5:=Tryz.underlying5,
 a5:=Tryz.isAgg5,
 z5:=Tryz.sizeOf5,
 v5:=Tryz.zeroValue5,
 t9:=Tryz.underlying9,
 a9:=Tryz.isAgg9,
 z9:=Tryz.sizeOf9,
 v9:=Tryz.zeroValue9,
 t22:=Tryz.underlying31,
 a22:=Tryz.isAgg31,
 z22:=Tryz.sizeOf31,
 v22:=Tryz.zeroValue31,
 t25:=Tryz.underlying91,
 a25:=Tryz.isAgg91,
 z25:=Tryz.sizeOf91,
 v25:=Tryz.zeroValue91,
 t39:=Tryz.underlying134,
 a39:=Tryz.isAgg134,
 z39:=Tryz.sizeOf134,
 v39:=Tryz.zeroValue134,
 t45:=Tryz.underlying190,
 a45:=Tryz.isAgg190,
 z45:=Tryz.sizeOf190,
 v45:=Tryz.zeroValue190,
 t46:=Tryz.underlying191,
 a46:=Tryz.isAgg191,
 z46:=Tryz.sizeOf191,
 v46:=Tryz.zeroValue191,
 t50:=Tryz.underlying97,
 a50:=Tryz.isAgg97,
 z50:=Tryz.sizeOf97,
 v50:=Tryz.zeroValue97,
 t53:=Tryz.underlying197,
 a53:=Tryz.isAgg197,
 z53:=Tryz.sizeOf197,
 v53:=Tryz.zeroValue197,
 t55:=Tryz.underlying199,
 a55:=Tryz.isAgg199,
 z55:=Tryz.sizeOf199,
 v55:=Tryz.zeroValue199,
 t66:=Tryz.underlying247,
 a66:=Tryz.isAgg247,
 z66:=Tryz.sizeOf247,
 v66:=Tryz.zeroValue247,
 t70:=Tryz.underlying230,
 a70:=Tryz.isAgg230,
 z70:=Tryz.sizeOf230,
 v70:=Tryz.zeroValue230,
 t76:=Tryz.underlying275,
 a76:=Tryz.isAgg275,
 z76:=Tryz.sizeOf275,
 v76:=Tryz.zeroValue275,
 t77:=Tryz.underlying276,
 a77:=Tryz.isAgg276,
 z77:=Tryz.sizeOf276,
 v77:=Tryz.zeroValue276 }
def Tryz.sortPc_ren:Go.Shelf.Ren:=⟨fun | 6 => 211 | 15 => 65 | 14 => 255 | 28 => 111 | 29 => 112 | 20 => 281 | 21 => 282 | 22 => 283 | 23 => 284 | 24 => 285 | 25 => 286 | 26 => 287 | 27 => 288 | 46 => 309 | 47 => 165 | 48 => 166 | 49 => 310 | 50 => 311 | 57 => 319 | n => n,fun | 22 => 181 | 24 => 185 | 25 => 272 | 3 => 3 | 39 => 134 | 0 => 0 | 53 => 197 | 55 => 199 | 4 => 4 | 46 => 191 | 45 => 190 | 50 => 97 | 5 => 5 | 9 => 9 | 66 => 247 | 70 => 230 | 76 => 275 | 77 => 276 | n => n,fun | n => n⟩
theorem Tryz.sortPc:Go.Proofs.SlLaysF0.n6 Tryz.prog Tryz.sortPc_ren:={
 mixed:=by kernel_rfl,
 f6:=⟨Tryz.f211.name,by decide,Tryz.func211.trans (congrArg some (by kernel_rfl))⟩,
 f14:=⟨Tryz.f255.name,by decide,Tryz.func255.trans (congrArg some (by kernel_rfl))⟩,
 f15:=Tryz.func65.trans (congrArg some (by kernel_rfl)),
 f20:=⟨Tryz.f281.name,by decide,Tryz.func281.trans (congrArg some (by kernel_rfl))⟩,
 f21:=⟨Tryz.f282.name,by decide,Tryz.func282.trans (congrArg some (by kernel_rfl))⟩,
 f22:=⟨Tryz.f283.name,by decide,Tryz.func283.trans (congrArg some (by kernel_rfl))⟩,
 f23:=⟨Tryz.f284.name,by decide,Tryz.func284.trans (congrArg some (by kernel_rfl))⟩,
 f24:=⟨Tryz.f285.name,by decide,Tryz.func285.trans (congrArg some (by kernel_rfl))⟩,
 f25:=⟨Tryz.f286.name,by decide,Tryz.func286.trans (congrArg some (by kernel_rfl))⟩,
 f26:=⟨Tryz.f287.name,by decide,Tryz.func287.trans (congrArg some (by kernel_rfl))⟩,
 f27:=⟨Tryz.f288.name,by decide,Tryz.func288.trans (congrArg some (by kernel_rfl))⟩,
 f28:=Tryz.func111.trans (congrArg some (by kernel_rfl)),
 f29:=Tryz.func112.trans (congrArg some (by kernel_rfl)),
 f46:=⟨Tryz.f309.name,by decide,Tryz.func309.trans (congrArg some (by kernel_rfl))⟩,
 f47:=Tryz.func165.trans (congrArg some (by kernel_rfl)),
 f48:=Tryz.func166.trans (congrArg some (by kernel_rfl)),
 f49:=⟨Tryz.f310.name,by decide,Tryz.func310.trans (congrArg some (by kernel_rfl))⟩,
 f50:=⟨Tryz.f311.name,by decide,Tryz.func311.trans (congrArg some (by kernel_rfl))⟩,
 f57:=⟨Tryz.f319.name,by decide,Tryz.func319.trans (congrArg some (by kernel_rfl))⟩,
 t0:=Tryz.underlying0,
 a0:=Tryz.isAgg0,
 z0:=Tryz.sizeOf0,
 v0:=Tryz.zeroValue0,
 t3:=Tryz.underlying3,
 a3:=Tryz.isAgg3,
 z3:=Tryz.sizeOf3,
 v3:=Tryz.zeroValue3,
 t4:=Tryz.underlying4,
 a4:=Tryz.isAgg4,
 z4:=Tryz.sizeOf4,
 v4:=Tryz.zeroValue4,
 t5:=Tryz.underlying5,
 a5:=Tryz.isAgg5,
 z5:=Tryz.sizeOf5,
 v5:=Tryz.zeroValue5,
 t9:=Tryz.underlying9,
 a9:=Tryz.isAgg9,
 z9:=Tryz.sizeOf9,
 v9:=Tryz.zeroValue9,
 t22:=Tryz.underlying181,
 a22:=Tryz.isAgg181,
 z22:=Tryz.sizeOf181,
 v22:=Tryz.zeroValue181,
 t25:=Tryz.underlying272,
 a25:=Tryz.isAgg272,
 z25:=Tryz.sizeOf272,
 v25:=Tryz.zeroValue272,
 t39:=Tryz.underlying134,
 a39:=Tryz.isAgg134,
 z39:=Tryz.sizeOf134,
 v39:=Tryz.zeroValue134,
 t45:=Tryz.underlying190,
 a45:=Tryz.isAgg190,
 z45:=Tryz.sizeOf190,
 v45:=Tryz.zeroValue190,
 t46:=Tryz.underlying191,
 a46:=Tryz.isAgg191,
 z46:=Tryz.sizeOf191,
 v46:=Tryz.zeroValue191,
 t50:=Tryz.underlying97,
 a50:=Tryz.isAgg97,
 z50:=Tryz.sizeOf97,
 v50:=Tryz.zeroValue97,
 t53:=Tryz.underlying197,
 a53:=Tryz.isAgg197,
 z53:=Tryz.sizeOf197,
 v53:=Tryz.zeroValue197,
 t55:=Tryz.underlying199,
 a55:=Tryz.isAgg199,
 z55:=Tryz.sizeOf199,
 v55:=Tryz.zeroValue199,
 t66:=Tryz.underlying247,
 a66:=Tryz.isAgg247,
 z66:=Tryz.sizeOf247,
 v66:=Tryz.zeroValue247,
 t70:=Tryz.underlying230,
 a70:=Tryz.isAgg230,
 z70:=Tryz.sizeOf230,
 v70:=Tryz.zeroValue230,
 t76:=Tryz.underlying275,
 a76:=Tryz.isAgg275,
 z76:=Tryz.sizeOf275,
 v76:=Tryz.zeroValue275,
 t77:=Tryz.underlying276,
 a77:=Tryz.isAgg276,
 z77:=Tryz.sizeOf276,
 v77:=Tryz.zeroValue276 }
end Go.Proofs
namespace Go.Vx.Z
open Go Go.Vx Go.Proofs
set_option linter.unusedVariables false
@[reducible] def sh185:Shape:=⟨[(0,.one (.clo 186 [some (100000,0)]))],[(100000,.box 57 [.d (.list r0)])]⟩
@[reducible] def out185:Shape:=⟨[(0,.one (.own 200000))],[(100000,.box 57 [.d (.list r0)]),(200000,.lst 68 r0 false)]⟩
@[reducible] def sh184:Shape:=⟨[(0,.one (.own 100000)),(1,.one (.fn 131))],[(100000,.lst 68 r0 false)]⟩
@[reducible] def out184:Shape:=⟨[],[(100000,.lst 68 r0 false)]⟩
def F184:sh184.D → Option out184.D:=FSort r0 68 131 okR cmpR
noncomputable def b185:Code:=Tryz.f185.body.getD .skip
noncomputable def cx185:Cx:=⟨Tryz.prog,[e234],[4],5,[],[]⟩
noncomputable def F185:sh185.D → Option out185.D:=func cx185 Tryz.f185 b185 sh185 out185
noncomputable def e184:FE:=⟨184,sh184,out184,F184⟩
noncomputable def e185:FE:=⟨185,sh185,out185,F185⟩
theorem ok184:FEOK Tryz.prog e184:=
 sort_ok (P:=Tryz.prog) (ρ:=Tryz.sortReq_ren) Tryz.sortReq (fun p cap fv w => AnyF.slices_SortFunc_none Tryz.sortReq p cap fv w) (enters_of Tryz.func184 (by kernel_rfl) rfl) (r:=r0) (e:=68) (g:=131) Tryz.isAgg68 Tryz.sizeOf68
  (Fc:=F131) ok131 (enters_of Tryz.func131 (by kernel_rfl) rfl) cmpR okR F131_is lin_cmpR.swo
theorem ok185:FEOK Tryz.prog e185:=func_ok (cx:=cx185) (fn:=Tryz.f185) (c:=b185) (all_fe (P:=Tryz.prog) (l:=[e234]) ⟨ok234,trivial⟩) (by kernel_rfl) (by kernel_rfl) (by kernel_rfl) (by kernel_rfl) (by kernel_rfl) (needs_of (l:=[]) (by kernel_rfl) trivial)

def cmpWant (p q:R6):Int:=cmpT (bs p.1) (bs q.1)
def okWant (p:R6):Bool:=true
theorem F35_is (p q:R6) (hp:okWant p = true) (hq:okWant q = true):F35 (toP r6 p (toP r6 q ())) = some (cmpWant p q,()):=by
 show F35 (p.1,p.2.1,p.2.2.1,p.2.2.2.1,p.2.2.2.2.1,p.2.2.2.2.2.1,p.2.2.2.2.2.2.1,p.2.2.2.2.2.2.2.1,p.2.2.2.2.2.2.2.2.1,p.2.2.2.2.2.2.2.2.2.1,q.1,q.2.1,q.2.2.1,q.2.2.2.1,q.2.2.2.2.1,q.2.2.2.2.2.1,q.2.2.2.2.2.2.1,q.2.2.2.2.2.2.2.1,q.2.2.2.2.2.2.2.2.1,q.2.2.2.2.2.2.2.2.2.1,()) = _
 rw [F35_eq,F36_is]
 rfl
theorem swo_want:Sort.SWO (ltOf cmpWant):=swo_at lin_cmpT.swo fun p:R6 => bs p.1
noncomputable def F34:List R6 × Unit → Option (List R6 × Unit):=FSort r6 64 35 okWant cmpWant
noncomputable def e34:FE:=⟨34,shSort 64 r6 35,outSort 64 r6,F34⟩
theorem ok34:FEOK Tryz.prog e34:=
 sort_ok (P:=Tryz.prog) (ρ:=Tryz.sortWant_ren) Tryz.sortWant (fun p cap fv w => AnyF.slices_SortFunc_none Tryz.sortWant p cap fv w) (enters_of Tryz.func34 (by kernel_rfl) rfl) (r:=r6) (e:=64) (g:=35) Tryz.isAgg64 Tryz.sizeOf64
  (Fc:=F35) ok35 (enters_of Tryz.func35 (by kernel_rfl) rfl) cmpWant okWant F35_is swo_want
noncomputable def F211:Nat × Nat × List R9 × Unit → Option (List R9 × Unit):=FSortP r9 185 212 okPc cmpPc
noncomputable def e211:FE:=⟨211,shSortP 185 r9 212,outSort 185 r9,F211⟩
theorem ok211:FEOK Tryz.prog e211:=
 sort_part_ok (P:=Tryz.prog) (ρ:=Tryz.sortPc_ren) Tryz.sortPc (fun p cap fv w => AnyF.slices_SortFunc_none Tryz.sortPc p cap fv w) (enters_of Tryz.func211 (by kernel_rfl) rfl) (r:=r9) (e:=185) (g:=212) Tryz.isAgg185 Tryz.sizeOf185
  (Fc:=F212) ok212 (enters_of Tryz.func212 (by kernel_rfl) rfl) cmpPc okPc F212_is swo_pc
end Go.Vx.Z
