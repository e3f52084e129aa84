import Derived.Test.YtjkfdmdnpkblfaaGreatDoorV2
import Derived.Test.YtjkfdmdnpkblfaaGreatDoorProg
import Derived.KernelRfl
import Derived.Shelf.SlSortCmp.WholeK
import Derived.RangeFuncGives
import Derived.RangeFuncLeaves
import Derived.TacticsInMore
import Derived.ControlIn
set_option linter.unusedSimpArgs false
namespace Go.Vx.Z
noncomputable section
open Go Go.Vx Go.Proofs
set_option linter.unusedVariables false
set_option maxRecDepth 1000000
set_option maxHeartbeats 4000000
noncomputable abbrev dI:SAC:=.d (.int .i64)
noncomputable abbrev dS:SAC:=.d .str
noncomputable abbrev dB:SAC:=.d .bool
noncomputable abbrev oI:SA1:=.one dI
noncomputable abbrev oS:SA1:=.one dS
noncomputable abbrev oB:SA1:=.one dB
abbrev Rnd (T U:Type):=T → Option (T ⊕ U)
theorem fk (cx : Cx) (ha : AllFE cx.T cx.G) (n : List (Need × CE)) (hn : AllCE cx.T cx.n n) {f : FuncId} {fn : Func} {c : Code} {sh out : Shape} (hf : cx.T.funcs[f]? = some fn := by kernel_rfl) (hb : fn.body = some c := by kernel_rfl) (hm : (fn.name == "runtime.NumGoroutine") = false := by kernel_rfl)
 (hc:sh.env.length + (fn.ntmps - sh.env.length) = cx.n:=by kernel_rfl) (hi:inOrder 0 sh.env = true:=by kernel_rfl) (hd:needs cx.L c = n:=by kernel_rfl):FEOK cx.T ⟨f,sh,out,func cx fn c sh out⟩:=func_ok (all_fe ha) hf hb hm hc hi (needs_of hd hn)
theorem ck (cx:Cx) (ha:AllFE cx.T cx.G) (n:List (Need × CE)) (hn:AllCE cx.T cx.n n) {c:Code} {sh:Shape} {outs:List (XE × Shape)} (hd:needs cx.L c = n:=by kernel_rfl):CEOK cx.T cx.n (.at (.loop c)) ⟨sh,outs,loop (round cx c sh outs)⟩:=round_ok (fun R => step_sound (all_fe ha) R) (needs_of hd hn) sh outs
abbrev r0:Ty:=.cons .str <| .cons (.int .i64) <| .cons (.int .i64) <| .cons (.int .i64) <| .cons .str <| .unit
abbrev R0:=ByteArray × Int × Int × Int × ByteArray × Unit
abbrev r1:Ty:=.cons (.int .i64) <| .cons (.int .i64) <| .cons (.int .i64) <| .cons .str <| .cons (.list r0) <| .cons .str <| .cons .str <| .unit
abbrev R1:=Int × Int × Int × ByteArray × List R0 × ByteArray × ByteArray × Unit
abbrev r2:Ty:=.cons .str <| .cons (.list r1) <| .unit
abbrev R2:=ByteArray × List R1 × Unit
abbrev r3:Ty:=.cons .str <| .cons .str <| .cons .bool <| .cons .bool <| .cons (.int .i64) <| .cons (.int .i64) <| .cons (.int .i64) <| .cons .str <| .cons (.int .i64) <| .unit
abbrev R3:=ByteArray × ByteArray × Bool × Bool × Int × Int × Int × ByteArray × Int × Unit
abbrev r4:Ty:=.cons .str <| .cons .str <| .cons (.int .i64) <| .cons (.int .i64) <| .cons (.int .i64) <| .cons .str <| .unit
abbrev R4:=ByteArray × ByteArray × Int × Int × Int × ByteArray × Unit
abbrev r5:Ty:=.cons (.int .i64) <| .cons (.int .i64) <| .cons (.int .i64) <| .cons .str <| .unit
abbrev R5:=Int × Int × Int × ByteArray × Unit
abbrev r6:Ty:=.cons .str <| .cons (.int .i64) <| .cons (.int .i64) <| .cons (.int .i64) <| .cons .str <| .cons .str <| .cons (.int .i64) <| .cons (.int .i64) <| .cons (.int .i64) <| .cons .str <| .unit
abbrev R6:=ByteArray × Int × Int × Int × ByteArray × ByteArray × Int × Int × Int × ByteArray × Unit
abbrev r7:Ty:=.cons .str <| .cons .str <| .cons .str <| .cons .str <| .cons .str <| .unit
abbrev R7:=ByteArray × ByteArray × ByteArray × ByteArray × ByteArray × Unit
abbrev r8:Ty:=.cons (.int .i64) <| .cons (.int .i64) <| .cons (.int .i64) <| .cons .str <| .cons (.int .i64) <| .cons (.int .i64) <| .cons (.int .i64) <| .cons .str <| .cons .bool <| .cons .bool <| .cons .bool <| .unit
abbrev R8:=Int × Int × Int × ByteArray × Int × Int × Int × ByteArray × Bool × Bool × Bool × Unit
abbrev r9:Ty:=.cons (.int .i64) <| .cons (.int .i64) <| .cons (.int .i64) <| .cons .str <| .cons .bool <| .cons .bool <| .cons (.int .i64) <| .cons (.int .i64) <| .cons (.int .i64) <| .cons .str <| .cons .bool <| .cons .bool <| .unit
abbrev R9:=Int × Int × Int × ByteArray × Bool × Bool × Int × Int × Int × ByteArray × Bool × Bool × Unit
abbrev r10:Ty:=.cons (.int .i64) <| .cons .str <| .cons .str <| .cons (.int .i64) <| .cons (.int .i64) <| .cons (.int .i64) <| .cons .str <| .cons (.int .i64) <| .cons (.int .i64) <| .cons (.int .i64) <| .cons .str <| .unit
abbrev R10:=Int × ByteArray × ByteArray × Int × Int × Int × ByteArray × Int × Int × Int × ByteArray × Unit
def e296:FE:=⟨296,shByte,outInt,FIndexByte⟩
theorem ok296:FEOK Tryz.prog e296:=ok_indexByte (fn:=Tryz.f296) (by kernel_rfl) (by kernel_rfl) (by kernel_rfl) (by kernel_rfl) (by kernel_rfl)
def e271:FE:=⟨271,shByte,outInt,FCount⟩
theorem ok271:FEOK Tryz.prog e271:=ok_count (fn:=Tryz.f271) (by kernel_rfl) (by kernel_rfl) (by kernel_rfl) (by kernel_rfl) (by kernel_rfl)
def e113:FE:=⟨113,shCompare,outInt,FCompare⟩
theorem ok113:FEOK Tryz.prog e113:=ok_compare (fn:=Tryz.f113) (by kernel_rfl) (by kernel_rfl) (by kernel_rfl) (by kernel_rfl) (by kernel_rfl)
abbrev sh24:Shape:=⟨[(0,oI),(1,oI)],[]⟩
abbrev out24:Shape:=⟨[(0,oI)],[]⟩
noncomputable def b24:Code:=Tryz.f24.body.getD .skip
noncomputable def cx24:Cx:=⟨Tryz.prog,[],[],15,[],[]⟩
def F24:Int × Int × Unit → Option (Int × Unit):=func cx24 Tryz.f24 b24 sh24 out24
def e24:FE:=⟨24,sh24,out24,F24⟩
theorem ok24:FEOK Tryz.prog e24:=fk cx24 trivial [] trivial
abbrev sh25:Shape:=⟨[],[]⟩
abbrev out25:Shape:=⟨[(0,.one (.d (.list .str)))],[]⟩
noncomputable def b25:Code:=Tryz.f25.body.getD .skip
noncomputable def cx25:Cx:=⟨Tryz.prog,[],[],2,[],[]⟩
def F25:Unit → Option (List ByteArray × Unit):=func cx25 Tryz.f25 b25 sh25 out25
def e25:FE:=⟨25,sh25,out25,F25⟩
theorem ok25:FEOK Tryz.prog e25:=fk cx25 trivial [] trivial
abbrev sh26:Shape:=⟨[(0,oI)],[]⟩
abbrev out26:Shape:=⟨[(0,oI)],[]⟩
noncomputable def b26:Code:=Tryz.f26.body.getD .skip
noncomputable def cx26:Cx:=⟨Tryz.prog,[],[],7,[],[]⟩
def F26:Int × Unit → Option (Int × Unit):=func cx26 Tryz.f26 b26 sh26 out26
def e26:FE:=⟨26,sh26,out26,F26⟩
theorem ok26:FEOK Tryz.prog e26:=fk cx26 trivial [] trivial
abbrev sh29:Shape:=⟨[(0,oI),(1,oI)],[]⟩
abbrev out29:Shape:=⟨[(0,oS)],[]⟩
noncomputable def b29:Code:=Tryz.f29.body.getD .skip
noncomputable def cx29:Cx:=⟨Tryz.prog,[],[],21,[],[]⟩
def F29:Int × Int × Unit → Option (ByteArray × Unit):=func cx29 Tryz.f29 b29 sh29 out29
def e29:FE:=⟨29,sh29,out29,F29⟩
theorem ok29:FEOK Tryz.prog e29:=fk cx29 trivial [] trivial
abbrev sh28:Shape:=⟨[(0,oI)],[]⟩
abbrev out28:Shape:=⟨[(0,oS)],[]⟩
noncomputable def b28:Code:=Tryz.f28.body.getD .skip
def cxr28 (X:sh28.D → Option out28.D):Cx:=⟨Tryz.prog,(⟨28,sh28,out28,X⟩ :: []),[],17,[],[]⟩
def FX28 (X:Int × Unit → Option (ByteArray × Unit)):Int × Unit → Option (ByteArray × Unit):=func (cxr28 X) Tryz.f28 b28 sh28 out28
def FR28:Nat → sh28.D → Option out28.D
 | 0 => fun _ => none
 | k + 1 => FX28 (FR28 k)
def F28:Int × Unit → Option (ByteArray × Unit):=FR28 30
def e28:FE:=⟨28,sh28,out28,F28⟩
theorem okr28:∀ k,FEOK Tryz.prog ⟨28,sh28,out28,FR28 k⟩:=rec_ok (fun _ => rfl) fun k ih => func_ok (cx:=cxr28 (FR28 k)) (fn:=Tryz.f28) (c:=b28) (all_fe (P:=Tryz.prog) (l:=⟨28,sh28,out28,FR28 k⟩ :: []) ⟨ih,trivial⟩) (by kernel_rfl) (by kernel_rfl) (by kernel_rfl) (by kernel_rfl) (by kernel_rfl) (needs_of (l:=[]) (by kernel_rfl) trivial)
theorem ok28:FEOK Tryz.prog e28:=okr28 30
abbrev sh141:Shape:=⟨[(0,.one (.d (.int .u8)))],[]⟩
abbrev out141:Shape:=⟨[(0,oB)],[]⟩
noncomputable def b141:Code:=Tryz.f141.body.getD .skip
noncomputable def cx141:Cx:=⟨Tryz.prog,[],[],9,[],[]⟩
def F141:Int × Unit → Option (Bool × Unit):=func cx141 Tryz.f141 b141 sh141 out141
def e141:FE:=⟨141,sh141,out141,F141⟩
theorem ok141:FEOK Tryz.prog e141:=fk cx141 trivial [] trivial
abbrev sh85:Shape:=⟨[(0,oS)],[]⟩
abbrev out85:Shape:=⟨[(0,oB)],[]⟩
noncomputable def b85:Code:=Tryz.f85.body.getD .skip
abbrev sh85_0:Shape:=⟨[(0,oS),(3,oI)],[]⟩
abbrev os85_0:List (XE × Shape):=[(.ret,⟨[(2,oB)],[]⟩),(.ex 0,⟨[(0,oS)],[]⟩)]
noncomputable def cx85_0:Cx:=⟨Tryz.prog,[e141],[],35,[],[]⟩
def B85_0:Rnd (ByteArray × Int × Unit) ((Bool × Unit) ⊕ (ByteArray × Unit)):=round cx85_0 (sub [1,0,1,0,0] b85) sh85_0 os85_0
def ce85_0:CE:=⟨sh85_0,os85_0,loop B85_0⟩
theorem okc85_0:CEOK Tryz.prog 35 (.at (.loop (sub [1,0,1,0,0] b85))) ce85_0:=ck cx85_0 ⟨ok141,trivial⟩ [] trivial
noncomputable def cx85:Cx:=⟨Tryz.prog,[e141],[],35,[(4,ce85_0)],[]⟩
def F85:ByteArray × Unit → Option (Bool × Unit):=func cx85 Tryz.f85 b85 sh85 out85
def e85:FE:=⟨85,sh85,out85,F85⟩
theorem ok85:FEOK Tryz.prog e85:=fk cx85 ⟨ok141,trivial⟩ [((.at (.loop (sub [1,0,1,0,0] b85))),ce85_0)] ⟨okc85_0,trivial⟩
abbrev sh142:Shape:=⟨[(0,oS)],[]⟩
abbrev out142:Shape:=⟨[(0,.one (.d (.list .str)))],[]⟩
noncomputable def b142:Code:=Tryz.f142.body.getD .skip
abbrev sh142_0:Shape:=⟨[(0,oS),(3,.one (.own 200000)),(4,oI),(5,oI)],[(200000,.lst 9 .str true)]⟩
abbrev os142_0:List (XE × Shape):=[(.ex 0,⟨[(3,.one (.own 200000))],[(200000,.lst 9 .str true)]⟩)]
noncomputable def cx142_0:Cx:=⟨Tryz.prog,[],[],32,[],[]⟩
def B142_0:Rnd (ByteArray × Int × Int × List ByteArray × Unit) (List ByteArray × Unit):=round cx142_0 (sub [1,1,1,0,1,0,0] b142) sh142_0 os142_0
def ce142_0:CE:=⟨sh142_0,os142_0,loop B142_0⟩
theorem okc142_0:CEOK Tryz.prog 32 (.at (.loop (sub [1,1,1,0,1,0,0] b142))) ce142_0:=ck cx142_0 trivial [] trivial
noncomputable def cx142:Cx:=⟨Tryz.prog,[],[],32,[(8,ce142_0)],[]⟩
def F142:ByteArray × Unit → Option (List ByteArray × Unit):=func cx142 Tryz.f142 b142 sh142 out142
def e142:FE:=⟨142,sh142,out142,F142⟩
theorem ok142:FEOK Tryz.prog e142:=fk cx142 trivial [((.at (.loop (sub [1,1,1,0,1,0,0] b142))),ce142_0)] ⟨okc142_0,trivial⟩
abbrev sh192:Shape:=⟨[(0,oS)],[]⟩
abbrev out192:Shape:=⟨[(0,oB)],[]⟩
noncomputable def b192:Code:=Tryz.f192.body.getD .skip
abbrev sh192_0:Shape:=⟨[(0,oS),(3,oI)],[]⟩
abbrev os192_0:List (XE × Shape):=[(.ret,⟨[(2,oB)],[]⟩),(.ex 0,⟨[(0,oS)],[]⟩)]
noncomputable def cx192_0:Cx:=⟨Tryz.prog,[e141],[],17,[],[]⟩
def B192_0:Rnd (ByteArray × Int × Unit) ((Bool × Unit) ⊕ (ByteArray × Unit)):=round cx192_0 (sub [1,0,1,0,0] b192) sh192_0 os192_0
def ce192_0:CE:=⟨sh192_0,os192_0,loop B192_0⟩
theorem okc192_0:CEOK Tryz.prog 17 (.at (.loop (sub [1,0,1,0,0] b192))) ce192_0:=ck cx192_0 ⟨ok141,trivial⟩ [] trivial
noncomputable def cx192:Cx:=⟨Tryz.prog,[e141],[],17,[(4,ce192_0)],[]⟩
def F192:ByteArray × Unit → Option (Bool × Unit):=func cx192 Tryz.f192 b192 sh192 out192
def e192:FE:=⟨192,sh192,out192,F192⟩
theorem ok192:FEOK Tryz.prog e192:=fk cx192 ⟨ok141,trivial⟩ [((.at (.loop (sub [1,0,1,0,0] b192))),ce192_0)] ⟨okc192_0,trivial⟩
abbrev sh193:Shape:=⟨[(0,.one (.d (.int .u8)))],[]⟩
abbrev out193:Shape:=⟨[(0,oB)],[]⟩
noncomputable def b193:Code:=Tryz.f193.body.getD .skip
noncomputable def cx193:Cx:=⟨Tryz.prog,[],[],21,[],[]⟩
def F193:Int × Unit → Option (Bool × Unit):=func cx193 Tryz.f193 b193 sh193 out193
def e193:FE:=⟨193,sh193,out193,F193⟩
theorem ok193:FEOK Tryz.prog e193:=fk cx193 trivial [] trivial
abbrev sh143:Shape:=⟨[(0,oS)],[]⟩
abbrev out143:Shape:=⟨[(0,oB)],[]⟩
noncomputable def b143:Code:=Tryz.f143.body.getD .skip
abbrev sh143_0:Shape:=⟨[(0,oS),(3,oI)],[]⟩
abbrev os143_0:List (XE × Shape):=[(.ret,⟨[(2,oB)],[]⟩),(.ex 0,⟨[],[]⟩)]
noncomputable def cx143_0:Cx:=⟨Tryz.prog,[e141,e192,e193],[],38,[],[]⟩
def B143_0:Rnd (ByteArray × Int × Unit) ((Bool × Unit) ⊕ (Unit)):=round cx143_0 (sub [1,1,0,1,0,0] b143) sh143_0 os143_0
def ce143_0:CE:=⟨sh143_0,os143_0,loop B143_0⟩
theorem okc143_0:CEOK Tryz.prog 38 (.at (.loop (sub [1,1,0,1,0,0] b143))) ce143_0:=ck cx143_0 ⟨ok141,ok192,ok193,trivial⟩ [] trivial
noncomputable def cx143:Cx:=⟨Tryz.prog,[e141,e192,e193],[],38,[(8,ce143_0)],[]⟩
def F143:ByteArray × Unit → Option (Bool × Unit):=func cx143 Tryz.f143 b143 sh143 out143
def e143:FE:=⟨143,sh143,out143,F143⟩
theorem ok143:FEOK Tryz.prog e143:=fk cx143 ⟨ok141,ok192,ok193,trivial⟩ [((.at (.loop (sub [1,1,0,1,0,0] b143))),ce143_0)] ⟨okc143_0,trivial⟩
abbrev sh86:Shape:=⟨[(0,.row [dI,dI,dI,dS])],[]⟩
abbrev out86:Shape:=⟨[(0,oB)],[]⟩
noncomputable def b86:Code:=Tryz.f86.body.getD .skip
abbrev sh86_0:Shape:=⟨[(3,.one (.d (.list .str))),(4,oI)],[]⟩
abbrev os86_0:List (XE × Shape):=[(.ret,⟨[(2,oB)],[]⟩),(.ex 0,⟨[],[]⟩)]
noncomputable def cx86_0:Cx:=⟨Tryz.prog,[e142,e143],[],52,[],[]⟩
def B86_0:Rnd (List ByteArray × Int × Unit) ((Bool × Unit) ⊕ (Unit)):=round cx86_0 (sub [1,1,1,1,0,1,0,0] b86) sh86_0 os86_0
def ce86_0:CE:=⟨sh86_0,os86_0,loop B86_0⟩
theorem okc86_0:CEOK Tryz.prog 52 (.at (.loop (sub [1,1,1,1,0,1,0,0] b86))) ce86_0:=ck cx86_0 ⟨ok142,ok143,trivial⟩ [] trivial
noncomputable def cx86:Cx:=⟨Tryz.prog,[e142,e143],[],52,[(14,ce86_0)],[]⟩
def F86:Int × Int × Int × ByteArray × Unit → Option (Bool × Unit):=func cx86 Tryz.f86 b86 sh86 out86
def e86:FE:=⟨86,sh86,out86,F86⟩
theorem ok86:FEOK Tryz.prog e86:=fk cx86 ⟨ok142,ok143,trivial⟩ [((.at (.loop (sub [1,1,1,1,0,1,0,0] b86))),ce86_0)] ⟨okc86_0,trivial⟩
abbrev sh57:Shape:=⟨[(0,oB),(1,.row [dI,dI,dI,dS]),(2,oI),(3,oS)],[]⟩
abbrev out57:Shape:=⟨[(0,.row [dI,dI,dI,dS]),(1,oB)],[]⟩
noncomputable def b57:Code:=Tryz.f57.body.getD .skip
abbrev sh57_0:Shape:=⟨[(0,oB),(3,oS),(5,.one (.ptr 200000 0)),(8,.one (.ptr 200001 0)),(10,oS)],[(200000,.box 47 [dI,dI,dI,dS]),(200001,.box 47 [dI,dI,dI,dS])]⟩
abbrev os57_0:List (XE × Shape):=[(.ex 0,⟨[(0,oB),(3,oS),(5,.one (.ptr 200000 0)),(8,.one (.ptr 200001 0)),(10,oS)],[(200000,.box 47 [dI,dI,dI,dS]),(200001,.box 47 [dI,dI,dI,dS])]⟩)]
noncomputable def cx57_0:Cx:=⟨Tryz.prog,[e28,e85,e86],[],62,[],[]⟩
def B57_0:Rnd (Bool × ByteArray × ByteArray × Int × Int × Int × ByteArray × Int × Int × Int × ByteArray × Unit) (Bool × ByteArray × ByteArray × Int × Int × Int × ByteArray × Int × Int × Int × ByteArray × Unit):=round cx57_0 (sub [1,1,1,0,0,0] b57) sh57_0 os57_0
def ce57_0:CE:=⟨sh57_0,os57_0,loop B57_0⟩
theorem okc57_0:CEOK Tryz.prog 62 (.at (.loop (sub [1,1,1,0,0,0] b57))) ce57_0:=ck cx57_0 ⟨ok28,ok85,ok86,trivial⟩ [] trivial
noncomputable def cx57:Cx:=⟨Tryz.prog,[e28,e85,e86],[],62,[(8,ce57_0)],[]⟩
def F57:Bool × Int × Int × Int × ByteArray × Int × ByteArray × Unit → Option (Int × Int × Int × ByteArray × Bool × Unit):=func cx57 Tryz.f57 b57 sh57 out57
def e57:FE:=⟨57,sh57,out57,F57⟩
theorem ok57:FEOK Tryz.prog e57:=fk cx57 ⟨ok28,ok85,ok86,trivial⟩ [((.at (.loop (sub [1,1,1,0,0,0] b57))),ce57_0)] ⟨okc57_0,trivial⟩
abbrev sh27:Shape:=⟨[(0,oI)],[]⟩
abbrev out27:Shape:=⟨[(0,.row [dI,dI,dI,dS])],[]⟩
noncomputable def b27:Code:=Tryz.f27.body.getD .skip
noncomputable def cx27:Cx:=⟨Tryz.prog,[e26,e29,e57],[],17,[],[]⟩
def F27:Int × Unit → Option (Int × Int × Int × ByteArray × Unit):=func cx27 Tryz.f27 b27 sh27 out27
def e27:FE:=⟨27,sh27,out27,F27⟩
theorem ok27:FEOK Tryz.prog e27:=fk cx27 ⟨ok26,ok29,ok57,trivial⟩ [] trivial
abbrev sh10:Shape:=⟨[(0,oI),(1,.one (.d (.list (.int .i64)))),(2,oB)],[]⟩
abbrev out10:Shape:=⟨[(0,.row [.d (.list r2),.d (.list r3)])],[]⟩
noncomputable def b10:Code:=Tryz.f10.body.getD .skip
abbrev sh10_0:Shape:=⟨[(1,.one (.d (.list (.int .i64)))),(2,oB),(6,.one (.ptr 200000 0)),(7,.one (.ptr 200001 0)),(8,oI),(9,oI),(10,oI),(11,oS),(12,oI),(13,.one (.own 200002)),(14,.one (.ptr 200003 0)),(15,oI),(16,.one (.ptr 200004 0)),(17,oI)],[(200000,.box 27 [.nilS,.nilS]),(200001,.box 27 [.own 200005,.own 200006]),(200002,.lst 47 r5 true),(200003,.box 56 [dS,.own 200007]),(200004,.box 59 [dI,dI,dI,dS,.own 200008,dS,dS]),(200005,.lst 56 r2 true),(200006,.lst 82 r3 true),(200007,.lst 59 r1 true),(200008,.lst 68 r0 true)]⟩
abbrev os10_0:List (XE × Shape):=[(.ex 4,⟨[(1,.one (.d (.list (.int .i64)))),(2,oB),(6,.one (.ptr 200000 0)),(7,.one (.ptr 200001 0)),(8,oI),(9,oI),(10,oI),(11,oS),(12,oI),(13,.one (.own 200002)),(14,.one (.ptr 200003 0)),(15,oI),(16,.one (.ptr 200004 0))],[(200000,.box 27 [.nilS,.nilS]),(200001,.box 27 [.own 200005,.own 200006]),(200002,.lst 47 r5 true),(200003,.box 56 [dS,.own 200007]),(200004,.box 59 [dI,dI,dI,dS,.own 200008,dS,dS]),(200005,.lst 56 r2 true),(200006,.lst 82 r3 true),(200007,.lst 59 r1 true),(200008,.lst 68 r0 true)]⟩)]
noncomputable def cx10_0:Cx:=⟨Tryz.prog,[e24,e25,e26,e27,e28,e29],[],208,[],[]⟩
def B10_0:Rnd (List Int × Bool × Int × Int × Int × ByteArray × Int × Int × Int × List R5 × ByteArray × Int × Int × Int × ByteArray × ByteArray × ByteArray × List R2 × List R3 × List R1 × List R0 × Unit) (List Int × Bool × Int × Int × Int × ByteArray × Int × Int × List R5 × ByteArray × Int × Int × Int × ByteArray × ByteArray × ByteArray × List R2 × List R3 × List R1 × List R0 × Unit):=round cx10_0 (sub [1,1,1,1,0,1,0,0,1,0,0,1,1,1,1,1,0,1,0,0,1,0,0,1,0,1,0,0] b10) sh10_0 os10_0
def ce10_0:CE:=⟨sh10_0,os10_0,loop B10_0⟩
theorem okc10_0:CEOK Tryz.prog 208 (.at (.loop (sub [1,1,1,1,0,1,0,0,1,0,0,1,1,1,1,1,0,1,0,0,1,0,0,1,0,1,0,0] b10))) ce10_0:=ck cx10_0 ⟨ok24,ok25,ok26,ok27,ok28,ok29,trivial⟩ [] trivial
abbrev sh10_1:Shape:=⟨[(1,.one (.d (.list (.int .i64)))),(2,oB),(6,.one (.ptr 200000 0)),(7,.one (.ptr 200001 0)),(8,oI),(9,oI),(10,oI),(11,oS),(12,oI),(13,.one (.own 200002)),(14,.one (.ptr 200003 0)),(15,oI)],[(200000,.box 27 [.nilS,.nilS]),(200001,.box 27 [.own 200004,.own 200005]),(200002,.lst 47 r5 true),(200003,.box 56 [dS,.own 200006]),(200004,.lst 56 r2 true),(200005,.lst 82 r3 true),(200006,.lst 59 r1 true)]⟩
abbrev os10_1:List (XE × Shape):=[(.ex 2,⟨[(1,.one (.d (.list (.int .i64)))),(2,oB),(6,.one (.ptr 200000 0)),(7,.one (.ptr 200001 0)),(8,oI),(9,oI),(10,oI),(11,oS),(12,oI),(14,.one (.ptr 200002 0))],[(200000,.box 27 [.nilS,.nilS]),(200001,.box 27 [.own 200003,.own 200004]),(200002,.box 56 [dS,.own 200005]),(200003,.lst 56 r2 true),(200004,.lst 82 r3 true),(200005,.lst 59 r1 true)]⟩)]
noncomputable def cx10_1:Cx:=⟨Tryz.prog,[e24,e25,e26,e27,e28,e29],[],208,[(36,ce10_0)],[]⟩
def B10_1:Rnd (List Int × Bool × Int × Int × Int × ByteArray × Int × Int × List R5 × ByteArray × List R2 × List R3 × List R1 × Unit) (List Int × Bool × Int × Int × Int × ByteArray × Int × ByteArray × List R2 × List R3 × List R1 × Unit):=round cx10_1 (sub [1,1,1,1,0,1,0,0,1,0,0,1,1,1,1,1,0,1,0,0] b10) sh10_1 os10_1
def ce10_1:CE:=⟨sh10_1,os10_1,loop B10_1⟩
theorem okc10_1:CEOK Tryz.prog 208 (.at (.loop (sub [1,1,1,1,0,1,0,0,1,0,0,1,1,1,1,1,0,1,0,0] b10))) ce10_1:=ck cx10_1 ⟨ok24,ok25,ok26,ok27,ok28,ok29,trivial⟩ [((.at (.loop (sub [1,1,1,1,0,1,0,0,1,0,0,1,1,1,1,1,0,1,0,0,1,0,0,1,0,1,0,0] b10))),ce10_0)] ⟨okc10_0,trivial⟩
abbrev sh10_2:Shape:=⟨[(1,.one (.d (.list (.int .i64)))),(2,oB),(6,.one (.ptr 200000 0)),(7,.one (.ptr 200001 0)),(8,oI),(9,oI),(10,oI)],[(200000,.box 27 [.nilS,.nilS]),(200001,.box 27 [.own 200002,.own 200003]),(200002,.lst 56 r2 true),(200003,.lst 82 r3 true)]⟩
abbrev os10_2:List (XE × Shape):=[(.ex 0,⟨[(6,.one (.ptr 200000 0)),(7,.one (.ptr 200001 0))],[(200000,.box 27 [.nilS,.nilS]),(200001,.box 27 [.own 200002,.own 200003]),(200002,.lst 56 r2 true),(200003,.lst 82 r3 true)]⟩)]
noncomputable def cx10_2:Cx:=⟨Tryz.prog,[e24,e25,e26,e27,e28,e29],[],208,[(36,ce10_0),(28,ce10_1)],[]⟩
def B10_2:Rnd (List Int × Bool × Int × Int × Int × List R2 × List R3 × Unit) (List R2 × List R3 × Unit):=round cx10_2 (sub [1,1,1,1,0,1,0,0] b10) sh10_2 os10_2
def ce10_2:CE:=⟨sh10_2,os10_2,loop B10_2⟩
theorem okc10_2:CEOK Tryz.prog 208 (.at (.loop (sub [1,1,1,1,0,1,0,0] b10))) ce10_2:=ck cx10_2 ⟨ok24,ok25,ok26,ok27,ok28,ok29,trivial⟩ [((.at (.loop (sub [1,1,1,1,0,1,0,0,1,0,0,1,1,1,1,1,0,1,0,0] b10))),ce10_1)] ⟨okc10_1,trivial⟩
noncomputable def cx10:Cx:=⟨Tryz.prog,[e24,e25,e26,e27,e28,e29],[],208,[(36,ce10_0),(28,ce10_1),(10,ce10_2)],[]⟩
def F10:Int × List Int × Bool × Unit → Option (List R2 × List R3 × Unit):=func cx10 Tryz.f10 b10 sh10 out10
def e10:FE:=⟨10,sh10,out10,F10⟩
theorem ok10:FEOK Tryz.prog e10:=fk cx10 ⟨ok24,ok25,ok26,ok27,ok28,ok29,trivial⟩ [((.at (.loop (sub [1,1,1,1,0,1,0,0] b10))),ce10_2)] ⟨okc10_2,trivial⟩
abbrev sh18:Shape:=⟨[(0,oI),(1,oI)],[]⟩
abbrev out18:Shape:=⟨[(0,oI)],[]⟩
noncomputable def b18:Code:=Tryz.f18.body.getD .skip
noncomputable def cx18:Cx:=⟨Tryz.prog,[],[],15,[],[]⟩
def F18:Int × Int × Unit → Option (Int × Unit):=func cx18 Tryz.f18 b18 sh18 out18
def e18:FE:=⟨18,sh18,out18,F18⟩
theorem ok18:FEOK Tryz.prog e18:=fk cx18 trivial [] trivial
abbrev sh20:Shape:=⟨[(0,.row [dI,dI,dI,dS])],[]⟩
abbrev out20:Shape:=⟨[(0,oS)],[]⟩
noncomputable def b20:Code:=Tryz.f20.body.getD .skip
noncomputable def cx20:Cx:=⟨Tryz.prog,[e28],[],27,[],[]⟩
def F20:Int × Int × Int × ByteArray × Unit → Option (ByteArray × Unit):=func cx20 Tryz.f20 b20 sh20 out20
def e20:FE:=⟨20,sh20,out20,F20⟩
theorem ok20:FEOK Tryz.prog e20:=fk cx20 ⟨ok28,trivial⟩ [] trivial
abbrev sh30:Shape:=⟨[(0,oS)],[]⟩
abbrev out30:Shape:=⟨[(0,oI)],[]⟩
noncomputable def b30:Code:=Tryz.f30.body.getD .skip
abbrev sh30_0:Shape:=⟨[(0,oS),(3,.one (.own 200000)),(4,oI)],[(200000,.lst 9 .str true)]⟩
abbrev os30_0:List (XE × Shape):=[(.ret,⟨[(2,oI)],[]⟩),(.ex 0,⟨[],[]⟩)]
noncomputable def cx30_0:Cx:=⟨Tryz.prog,[],[],17,[],[]⟩
def B30_0:Rnd (ByteArray × Int × List ByteArray × Unit) ((Int × Unit) ⊕ (Unit)):=round cx30_0 (sub [1,1,0,1,0,0] b30) sh30_0 os30_0
def ce30_0:CE:=⟨sh30_0,os30_0,loop B30_0⟩
theorem okc30_0:CEOK Tryz.prog 17 (.at (.loop (sub [1,1,0,1,0,0] b30))) ce30_0:=ck cx30_0 trivial [] trivial
noncomputable def cx30:Cx:=⟨Tryz.prog,[],[],17,[(6,ce30_0)],[]⟩
def F30:ByteArray × Unit → Option (Int × Unit):=func cx30 Tryz.f30 b30 sh30 out30
def e30:FE:=⟨30,sh30,out30,F30⟩
theorem ok30:FEOK Tryz.prog e30:=fk cx30 trivial [((.at (.loop (sub [1,1,0,1,0,0] b30))),ce30_0)] ⟨okc30_0,trivial⟩
abbrev sh11:Shape:=⟨[(0,.row [.d (.list r2),.d (.list r3)]),(1,.one (.d (.list (.int .i64))))],[]⟩
abbrev out11:Shape:=⟨[(0,.one (.d (.list r7)))],[]⟩
noncomputable def b11:Code:=Tryz.f11.body.getD .skip
abbrev sh11_0:Shape:=⟨[(1,.one (.d (.list (.int .i64)))),(2,.one (.ptr 200000 0)),(5,.one (.own 200001)),(6,oI),(11,.one (.ptr 200002 0)),(13,oB),(14,oI),(20,oI),(21,oB)],[(200000,.box 27 [.d (.list r2),.d (.list r3)]),(200001,.lst 44 r7 true),(200002,.box 44 [dS,dS,dS,dS,dS])]⟩
abbrev os11_0:List (XE × Shape):=[(.ex 2,⟨[(1,.one (.d (.list (.int .i64)))),(2,.one (.ptr 200000 0)),(5,.one (.own 200001)),(6,oI),(11,.one (.ptr 200002 0)),(13,oB),(20,oI),(21,oB)],[(200000,.box 27 [.d (.list r2),.d (.list r3)]),(200001,.lst 44 r7 true),(200002,.box 44 [dS,dS,dS,dS,dS])]⟩)]
noncomputable def cx11_0:Cx:=⟨Tryz.prog,[e18,e20,e30],[],167,[],[]⟩
def B11_0:Rnd (List Int × Int × Bool × Int × Int × Bool × List R2 × List R3 × List R7 × ByteArray × ByteArray × ByteArray × ByteArray × ByteArray × Unit) (List Int × Int × Bool × Int × Bool × List R2 × List R3 × List R7 × ByteArray × ByteArray × ByteArray × ByteArray × ByteArray × Unit):=round cx11_0 (sub [1,1,0,1,0,0,1,0,0,1,1,1,1,1,1,1,1,1,1,1,1,1,1,1,0,1,0,0] b11) sh11_0 os11_0
def ce11_0:CE:=⟨sh11_0,os11_0,loop B11_0⟩
theorem okc11_0:CEOK Tryz.prog 167 (.at (.loop (sub [1,1,0,1,0,0,1,0,0,1,1,1,1,1,1,1,1,1,1,1,1,1,1,1,0,1,0,0] b11))) ce11_0:=ck cx11_0 ⟨ok18,ok20,ok30,trivial⟩ [] trivial
abbrev sh11_1:Shape:=⟨[(1,.one (.d (.list (.int .i64)))),(2,.one (.ptr 200000 0)),(5,.one (.own 200001)),(6,oI)],[(200000,.box 27 [.d (.list r2),.d (.list r3)]),(200001,.lst 44 r7 true)]⟩
abbrev os11_1:List (XE × Shape):=[(.ex 0,⟨[(5,.one (.own 200000))],[(200000,.lst 44 r7 true)]⟩)]
noncomputable def cx11_1:Cx:=⟨Tryz.prog,[e18,e20,e30],[],167,[(56,ce11_0)],[]⟩
def B11_1:Rnd (List Int × Int × List R2 × List R3 × List R7 × Unit) (List R7 × Unit):=round cx11_1 (sub [1,1,0,1,0,0] b11) sh11_1 os11_1
def ce11_1:CE:=⟨sh11_1,os11_1,loop B11_1⟩
theorem okc11_1:CEOK Tryz.prog 167 (.at (.loop (sub [1,1,0,1,0,0] b11))) ce11_1:=ck cx11_1 ⟨ok18,ok20,ok30,trivial⟩ [((.at (.loop (sub [1,1,0,1,0,0,1,0,0,1,1,1,1,1,1,1,1,1,1,1,1,1,1,1,0,1,0,0] b11))),ce11_0)] ⟨okc11_0,trivial⟩
noncomputable def cx11:Cx:=⟨Tryz.prog,[e18,e20,e30],[],167,[(56,ce11_0),(6,ce11_1)],[]⟩
def F11:List R2 × List R3 × List Int × Unit → Option (List R7 × Unit):=func cx11 Tryz.f11 b11 sh11 out11
def e11:FE:=⟨11,sh11,out11,F11⟩
theorem ok11:FEOK Tryz.prog e11:=fk cx11 ⟨ok18,ok20,ok30,trivial⟩ [((.at (.loop (sub [1,1,0,1,0,0] b11))),ce11_1)] ⟨okc11_1,trivial⟩
abbrev sh78:Shape:=⟨[(0,.one (.d (.list (.int .i64))))],[]⟩
abbrev out78:Shape:=⟨[(0,oI)],[]⟩
noncomputable def b78:Code:=Tryz.f78.body.getD .skip
abbrev sh78_0:Shape:=⟨[(3,oI),(6,.one (.d (.list (.int .i64)))),(7,oI),(8,oI)],[]⟩
abbrev os78_0:List (XE × Shape):=[(.ret,⟨[(2,oI)],[]⟩),(.ex 0,⟨[(3,oI)],[]⟩)]
noncomputable def cx78_0:Cx:=⟨Tryz.prog,[],[],18,[],[]⟩
def B78_0:Rnd (Int × List Int × Int × Int × Unit) ((Int × Unit) ⊕ (Int × Unit)):=round cx78_0 (sub [1,1,0,1,0,0] b78) sh78_0 os78_0
def ce78_0:CE:=⟨sh78_0,os78_0,loop B78_0⟩
theorem okc78_0:CEOK Tryz.prog 18 (.at (.loop (sub [1,1,0,1,0,0] b78))) ce78_0:=ck cx78_0 trivial [] trivial
noncomputable def cx78:Cx:=⟨Tryz.prog,[],[],18,[(6,ce78_0)],[]⟩
def F78:List Int × Unit → Option (Int × Unit):=func cx78 Tryz.f78 b78 sh78 out78
def e78:FE:=⟨78,sh78,out78,F78⟩
theorem ok78:FEOK Tryz.prog e78:=fk cx78 trivial [((.at (.loop (sub [1,1,0,1,0,0] b78))),ce78_0)] ⟨okc78_0,trivial⟩
abbrev sh134:Shape:=⟨[(0,oI)],[]⟩
abbrev out134:Shape:=⟨[(0,oB)],[]⟩
noncomputable def b134:Code:=Tryz.f134.body.getD .skip
noncomputable def cx134:Cx:=⟨Tryz.prog,[],[],6,[],[]⟩
def F134:Int × Unit → Option (Bool × Unit):=func cx134 Tryz.f134 b134 sh134 out134
def e134:FE:=⟨134,sh134,out134,F134⟩
theorem ok134:FEOK Tryz.prog e134:=fk cx134 trivial [] trivial
abbrev sh79:Shape:=⟨[(0,oI),(1,oI)],[]⟩
abbrev out79:Shape:=⟨[(0,oI)],[]⟩
noncomputable def b79:Code:=Tryz.f79.body.getD .skip
noncomputable def cx79:Cx:=⟨Tryz.prog,[e134],[],20,[],[]⟩
def F79:Int × Int × Unit → Option (Int × Unit):=func cx79 Tryz.f79 b79 sh79 out79
def e79:FE:=⟨79,sh79,out79,F79⟩
theorem ok79:FEOK Tryz.prog e79:=fk cx79 ⟨ok134,trivial⟩ [] trivial
abbrev sh188:Shape:=⟨[(0,oS)],[]⟩
abbrev out188:Shape:=⟨[(0,oB)],[]⟩
noncomputable def b188:Code:=Tryz.f188.body.getD .skip
abbrev sh188_0:Shape:=⟨[(0,oS),(5,oI),(6,oI)],[]⟩
abbrev os188_0:List (XE × Shape):=[(.ret,⟨[(2,oB)],[]⟩),(.ex 0,⟨[(0,oS)],[]⟩)]
noncomputable def cx188_0:Cx:=⟨Tryz.prog,[],[],22,[],[]⟩
def B188_0:Rnd (ByteArray × Int × Int × Unit) ((Bool × Unit) ⊕ (ByteArray × Unit)):=round cx188_0 (sub [1,0,1,0,0] b188) sh188_0 os188_0
def ce188_0:CE:=⟨sh188_0,os188_0,loop B188_0⟩
theorem okc188_0:CEOK Tryz.prog 22 (.at (.loop (sub [1,0,1,0,0] b188))) ce188_0:=ck cx188_0 trivial [] trivial
noncomputable def cx188:Cx:=⟨Tryz.prog,[],[],22,[(4,ce188_0)],[]⟩
def F188:ByteArray × Unit → Option (Bool × Unit):=func cx188 Tryz.f188 b188 sh188 out188
def e188:FE:=⟨188,sh188,out188,F188⟩
theorem ok188:FEOK Tryz.prog e188:=fk cx188 trivial [((.at (.loop (sub [1,0,1,0,0] b188))),ce188_0)] ⟨okc188_0,trivial⟩
abbrev sh238:Shape:=⟨[(0,oS)],[]⟩
abbrev out238:Shape:=⟨[(0,oB)],[]⟩
noncomputable def b238:Code:=Tryz.f238.body.getD .skip
noncomputable def cx238:Cx:=⟨Tryz.prog,[],[],6,[],[]⟩
def F238:ByteArray × Unit → Option (Bool × Unit):=func cx238 Tryz.f238 b238 sh238 out238
def e238:FE:=⟨238,sh238,out238,F238⟩
theorem ok238:FEOK Tryz.prog e238:=fk cx238 trivial [] trivial
abbrev sh189:Shape:=⟨[(0,oS),(1,oS)],[]⟩
abbrev out189:Shape:=⟨[(0,oI)],[]⟩
noncomputable def b189:Code:=Tryz.f189.body.getD .skip
noncomputable def cx189:Cx:=⟨Tryz.prog,[e238],[],20,[],[]⟩
def F189:ByteArray × ByteArray × Unit → Option (Int × Unit):=func cx189 Tryz.f189 b189 sh189 out189
def e189:FE:=⟨189,sh189,out189,F189⟩
theorem ok189:FEOK Tryz.prog e189:=fk cx189 ⟨ok238,trivial⟩ [] trivial
abbrev sh137:Shape:=⟨[(0,oS),(1,oS)],[]⟩
abbrev out137:Shape:=⟨[(0,oI)],[]⟩
noncomputable def b137:Code:=Tryz.f137.body.getD .skip
noncomputable def cx137:Cx:=⟨Tryz.prog,[e78,e79,e188,e189],[],33,[],[]⟩
def F137:ByteArray × ByteArray × Unit → Option (Int × Unit):=func cx137 Tryz.f137 b137 sh137 out137
def e137:FE:=⟨137,sh137,out137,F137⟩
theorem ok137:FEOK Tryz.prog e137:=fk cx137 ⟨ok78,ok79,ok188,ok189,trivial⟩ [] trivial
abbrev sh135:Shape:=⟨[(0,.one (.d (.list .str))),(1,.one (.d (.list .str))),(2,.one (.fn 137))],[]⟩
abbrev out135:Shape:=⟨[(0,oI)],[]⟩
noncomputable def b135:Code:=Tryz.f135.body.getD .skip
abbrev sh135_0:Shape:=⟨[(0,.one (.d (.list .str))),(1,.one (.d (.list .str))),(2,.one (.fn 137)),(11,.one (.d (.list .str))),(12,oI),(13,oI)],[]⟩
abbrev os135_0:List (XE × Shape):=[(.ret,⟨[(6,oI)],[]⟩),(.ex 0,⟨[(0,.one (.d (.list .str))),(1,.one (.d (.list .str)))],[]⟩)]
noncomputable def cx135_0:Cx:=⟨Tryz.prog,[e137],[],39,[],[]⟩
def B135_0:Rnd (List ByteArray × List ByteArray × List ByteArray × Int × Int × Unit) ((Int × Unit) ⊕ (List ByteArray × List ByteArray × Unit)):=round cx135_0 (sub [1,0,1,0,0] b135) sh135_0 os135_0
def ce135_0:CE:=⟨sh135_0,os135_0,loop B135_0⟩
theorem okc135_0:CEOK Tryz.prog 39 (.at (.loop (sub [1,0,1,0,0] b135))) ce135_0:=ck cx135_0 ⟨ok137,trivial⟩ [] trivial
noncomputable def cx135:Cx:=⟨Tryz.prog,[e137],[],39,[(4,ce135_0)],[]⟩
def F135:List ByteArray × List ByteArray × Unit → Option (Int × Unit):=func cx135 Tryz.f135 b135 sh135 out135
def e135:FE:=⟨135,sh135,out135,F135⟩
theorem ok135:FEOK Tryz.prog e135:=fk cx135 ⟨ok137,trivial⟩ [((.at (.loop (sub [1,0,1,0,0] b135))),ce135_0)] ⟨okc135_0,trivial⟩
abbrev sh272:Shape:=⟨[(0,oS),(1,.one (.d (.int .u8)))],[]⟩
abbrev out272:Shape:=⟨[(0,oI)],[]⟩
noncomputable def b272:Code:=Tryz.f272.body.getD .skip
noncomputable def cx272:Cx:=⟨Tryz.prog,[e296],[],8,[],[]⟩
def F272:ByteArray × Int × Unit → Option (Int × Unit):=func cx272 Tryz.f272 b272 sh272 out272
def e272:FE:=⟨272,sh272,out272,F272⟩
theorem ok272:FEOK Tryz.prog e272:=fk cx272 ⟨ok296,trivial⟩ [] trivial
abbrev sh239:Shape:=⟨[(0,oS),(1,oS)],[]⟩
abbrev out239:Shape:=⟨[(0,oI)],[]⟩
noncomputable def b239:Code:=Tryz.f239.body.getD .skip
noncomputable def cx239:Cx:=⟨Tryz.prog,[e272],[],143,[],[]⟩
def F239:ByteArray × ByteArray × Unit → Option (Int × Unit):=func cx239 Tryz.f239 b239 sh239 out239
def e239:FE:=⟨239,sh239,out239,F239⟩
theorem ok239:FEOK Tryz.prog e239:=fk cx239 ⟨ok272,trivial⟩ [] trivial
abbrev sh237:Shape:=⟨[(0,oS),(1,oS)],[]⟩
abbrev out237:Shape:=⟨[(0,oI)],[]⟩
noncomputable def b237:Code:=Tryz.f237.body.getD .skip
noncomputable def cx237:Cx:=⟨Tryz.prog,[e239],[],8,[],[]⟩
def F237:ByteArray × ByteArray × Unit → Option (Int × Unit):=func cx237 Tryz.f237 b237 sh237 out237
def e237:FE:=⟨237,sh237,out237,F237⟩
theorem ok237:FEOK Tryz.prog e237:=fk cx237 ⟨ok239,trivial⟩ [] trivial
abbrev sh269:Shape:=⟨[(0,oS)],[]⟩
abbrev out269:Shape:=⟨[(0,oI)],[]⟩
noncomputable def b269:Code:=Tryz.f269.body.getD .skip
abbrev sh269_0:Shape:=⟨[(2,oI),(4,.one (.ptr 200000 0))],[(200000,.it)]⟩
abbrev os269_0:List (XE × Shape):=[(.ex 0,⟨[(2,oI)],[]⟩)]
noncomputable def cx269_0:Cx:=⟨Tryz.prog,[],[],10,[],[]⟩
def B269_0:Rnd (Int × ByteArray × Nat × Unit) (Int × Unit):=round cx269_0 (sub [1,0,1,0,0] b269) sh269_0 os269_0
def ce269_0:CE:=⟨sh269_0,os269_0,loop B269_0⟩
theorem okc269_0:CEOK Tryz.prog 10 (.at (.loop (sub [1,0,1,0,0] b269))) ce269_0:=ck cx269_0 trivial [] trivial
noncomputable def cx269:Cx:=⟨Tryz.prog,[],[],10,[(4,ce269_0)],[]⟩
def F269:ByteArray × Unit → Option (Int × Unit):=func cx269 Tryz.f269 b269 sh269 out269
def e269:FE:=⟨269,sh269,out269,F269⟩
theorem ok269:FEOK Tryz.prog e269:=fk cx269 trivial [((.at (.loop (sub [1,0,1,0,0] b269))),ce269_0)] ⟨okc269_0,trivial⟩
abbrev sh236:Shape:=⟨[(0,oS),(1,oS)],[]⟩
abbrev out236:Shape:=⟨[(0,oI)],[]⟩
noncomputable def b236:Code:=Tryz.f236.body.getD .skip
abbrev sh236_0:Shape:=⟨[(0,oS),(1,oS),(5,oI)],[]⟩
abbrev os236_0:List (XE × Shape):=[(.ret,⟨[(4,oI)],[]⟩)]
noncomputable def cx236_0:Cx:=⟨Tryz.prog,[e237,e269,e271],[],34,[],[]⟩
def B236_0:Rnd (ByteArray × ByteArray × Int × Unit) (Int × Unit):=round cx236_0 (sub [1,1,1,1,0,0] b236) sh236_0 os236_0
def ce236_0:CE:=⟨sh236_0,os236_0,loop B236_0⟩
theorem okc236_0:CEOK Tryz.prog 34 (.at (.loop (sub [1,1,1,1,0,0] b236))) ce236_0:=ck cx236_0 ⟨ok237,ok269,ok271,trivial⟩ [] trivial
noncomputable def cx236:Cx:=⟨Tryz.prog,[e237,e269,e271],[],34,[(12,ce236_0)],[]⟩
def F236:ByteArray × ByteArray × Unit → Option (Int × Unit):=func cx236 Tryz.f236 b236 sh236 out236
def e236:FE:=⟨236,sh236,out236,F236⟩
theorem ok236:FEOK Tryz.prog e236:=fk cx236 ⟨ok237,ok269,ok271,trivial⟩ [((.at (.loop (sub [1,1,1,1,0,0] b236))),ce236_0)] ⟨okc236_0,trivial⟩
abbrev sh187:Shape:=⟨[(0,oS),(1,oS),(2,oI),(3,oI)],[]⟩
abbrev out187:Shape:=⟨[(0,.one (.d (.list .str)))],[]⟩
noncomputable def b187:Code:=Tryz.f187.body.getD .skip
abbrev sh187_0:Shape:=⟨[(0,oS),(1,oS),(2,oI),(3,oI),(9,.one (.own 200000)),(10,oI)],[(200000,.lst 9 .str false)]⟩
abbrev os187_0:List (XE × Shape):=[(.ex 0,⟨[(0,oS),(9,.one (.own 200000)),(10,oI)],[(200000,.lst 9 .str false)]⟩)]
noncomputable def cx187_0:Cx:=⟨Tryz.prog,[e236,e237],[31],66,[],[]⟩
def B187_0:Rnd (ByteArray × ByteArray × Int × Int × Int × List ByteArray × Unit) (ByteArray × Int × List ByteArray × Unit):=round cx187_0 (sub [1,1,1,1,1,1,1,1,0,0,0] b187) sh187_0 os187_0
def ce187_0:CE:=⟨sh187_0,os187_0,loop B187_0⟩
theorem okc187_0:CEOK Tryz.prog 66 (.at (.loop (sub [1,1,1,1,1,1,1,1,0,0,0] b187))) ce187_0:=ck cx187_0 ⟨ok236,ok237,trivial⟩ [] trivial
noncomputable def cx187:Cx:=⟨Tryz.prog,[e236,e237],[31],66,[(22,ce187_0)],[200000]⟩
def F187:ByteArray × ByteArray × Int × Int × Unit → Option (List ByteArray × Unit):=func cx187 Tryz.f187 b187 sh187 out187
def e187:FE:=⟨187,sh187,out187,F187⟩
theorem ok187:FEOK Tryz.prog e187:=fk cx187 ⟨ok236,ok237,trivial⟩ [((.at (.loop (sub [1,1,1,1,1,1,1,1,0,0,0] b187))),ce187_0)] ⟨okc187_0,trivial⟩
abbrev sh136:Shape:=⟨[(0,oS),(1,oS)],[]⟩
abbrev out136:Shape:=⟨[(0,.one (.d (.list .str)))],[]⟩
noncomputable def b136:Code:=Tryz.f136.body.getD .skip
noncomputable def cx136:Cx:=⟨Tryz.prog,[e187],[],8,[],[]⟩
def F136:ByteArray × ByteArray × Unit → Option (List ByteArray × Unit):=func cx136 Tryz.f136 b136 sh136 out136
def e136:FE:=⟨136,sh136,out136,F136⟩
theorem ok136:FEOK Tryz.prog e136:=fk cx136 ⟨ok187,trivial⟩ [] trivial
abbrev sh80:Shape:=⟨[(0,oS),(1,oS)],[]⟩
abbrev out80:Shape:=⟨[(0,oI)],[]⟩
noncomputable def b80:Code:=Tryz.f80.body.getD .skip
noncomputable def cx80:Cx:=⟨Tryz.prog,[e135,e136],[],20,[],[]⟩
def F80:ByteArray × ByteArray × Unit → Option (Int × Unit):=func cx80 Tryz.f80 b80 sh80 out80
def e80:FE:=⟨80,sh80,out80,F80⟩
theorem ok80:FEOK Tryz.prog e80:=fk cx80 ⟨ok135,ok136,trivial⟩ [] trivial
abbrev sh45:Shape:=⟨[(0,.row [dI,dI,dI,dS]),(1,.row [dI,dI,dI,dS])],[]⟩
abbrev out45:Shape:=⟨[(0,oI)],[]⟩
noncomputable def b45:Code:=Tryz.f45.body.getD .skip
noncomputable def cx45:Cx:=⟨Tryz.prog,[e78,e79,e80],[],27,[],[]⟩
def F45:Int × Int × Int × ByteArray × Int × Int × Int × ByteArray × Unit → Option (Int × Unit):=func cx45 Tryz.f45 b45 sh45 out45
def e45:FE:=⟨45,sh45,out45,F45⟩
theorem ok45:FEOK Tryz.prog e45:=fk cx45 ⟨ok78,ok79,ok80,trivial⟩ [] trivial
abbrev sh87:Shape:=⟨[(0,.one (.d (.list .str)))],[]⟩
abbrev out87:Shape:=⟨[(0,.one (.d (.list .str)))],[]⟩
noncomputable def b87:Code:=Tryz.f87.body.getD .skip
noncomputable def cx87:Cx:=⟨Tryz.prog,[],[],8,[],[]⟩
def Fg87:List ByteArray × Unit → Option (List ByteArray × Unit):=func cx87 Tryz.f87 b87 sh87 out87
theorem okg87:FEOK Tryz.prog ⟨87,sh87,out87,Fg87⟩:=fk cx87 trivial [] trivial
def F87:List ByteArray × Unit → Option (List ByteArray × Unit):=fun (x0,_) => bif Nat.ble (List.length x0) 8796093022208 then some (x0,()) else none
def e87:FE:=⟨87,sh87,out87,F87⟩
theorem Fg87_eq (x0:List ByteArray):Fg87 (x0,()) = bif List.isEmpty x0 then both (some ([],())) (bif decide (0 + List.length x0 ≤ 8796093022208) then some ([] ++ x0,()) else none) else (bif decide (0 + List.length x0 ≤ 8796093022208) then some ([] ++ x0,()) else none):=by kernel_rfl
theorem ok87:FEOK Tryz.prog e87:=by
 intro p r hr
 obtain ⟨x0,⟨⟩⟩:=p
 exact okg87 (x0,()) r (clone_ok (l:=x0) (Fg87_eq x0) hr (fun h => by cases x0 with | nil => rfl | cons _ _ => cases h) rfl)
abbrev sh58:Shape:=⟨[(0,.row [.d (.list r2),.d (.list r3)])],[]⟩
abbrev out58:Shape:=⟨[(0,.one (.d (.list .str)))],[]⟩
noncomputable def b58:Code:=Tryz.f58.body.getD .skip
abbrev sh58_0:Shape:=⟨[(3,.one (.own 200000)),(7,.one (.d (.list r2))),(8,oI),(9,oI)],[(200000,.lst 9 .str true)]⟩
abbrev os58_0:List (XE × Shape):=[(.ex 0,⟨[(3,.one (.own 200000))],[(200000,.lst 9 .str true)]⟩)]
noncomputable def cx58_0:Cx:=⟨Tryz.prog,[e87],[],21,[],[]⟩
def B58_0:Rnd (List R2 × Int × Int × List ByteArray × Unit) (List ByteArray × Unit):=round cx58_0 (sub [1,1,0,1,0,0] b58) sh58_0 os58_0
def ce58_0:CE:=⟨sh58_0,os58_0,loop B58_0⟩
theorem okc58_0:CEOK Tryz.prog 21 (.at (.loop (sub [1,1,0,1,0,0] b58))) ce58_0:=ck cx58_0 ⟨ok87,trivial⟩ [] trivial
noncomputable def cx58:Cx:=⟨Tryz.prog,[e87],[],21,[(6,ce58_0)],[]⟩
def F58:List R2 × List R3 × Unit → Option (List ByteArray × Unit):=func cx58 Tryz.f58 b58 sh58 out58
def e58:FE:=⟨58,sh58,out58,F58⟩
theorem ok58:FEOK Tryz.prog e58:=fk cx58 ⟨ok87,trivial⟩ [((.at (.loop (sub [1,1,0,1,0,0] b58))),ce58_0)] ⟨okc58_0,trivial⟩
abbrev sh194:Shape:=⟨[(0,oS),(1,.one (.d (.int .u8)))],[]⟩
abbrev out194:Shape:=⟨[(0,oI)],[]⟩
noncomputable def b194:Code:=Tryz.f194.body.getD .skip
abbrev sh194_0:Shape:=⟨[(0,oS),(1,.one (.d (.int .u8))),(5,oI)],[]⟩
abbrev os194_0:List (XE × Shape):=[(.ret,⟨[(4,oI)],[]⟩),(.ex 0,⟨[],[]⟩)]
noncomputable def cx194_0:Cx:=⟨Tryz.prog,[],[],19,[],[]⟩
def B194_0:Rnd (ByteArray × Int × Int × Unit) ((Int × Unit) ⊕ (Unit)):=round cx194_0 (sub [1,0,1,0,0] b194) sh194_0 os194_0
def ce194_0:CE:=⟨sh194_0,os194_0,loop B194_0⟩
theorem okc194_0:CEOK Tryz.prog 19 (.at (.loop (sub [1,0,1,0,0] b194))) ce194_0:=ck cx194_0 trivial [] trivial
noncomputable def cx194:Cx:=⟨Tryz.prog,[],[],19,[(4,ce194_0)],[]⟩
def F194:ByteArray × Int × Unit → Option (Int × Unit):=func cx194 Tryz.f194 b194 sh194 out194
def e194:FE:=⟨194,sh194,out194,F194⟩
theorem ok194:FEOK Tryz.prog e194:=fk cx194 trivial [((.at (.loop (sub [1,0,1,0,0] b194))),ce194_0)] ⟨okc194_0,trivial⟩
abbrev sh144:Shape:=⟨[(0,oS),(1,.one (.d (.int .u8)))],[]⟩
abbrev out144:Shape:=⟨[(0,oI)],[]⟩
noncomputable def b144:Code:=Tryz.f144.body.getD .skip
noncomputable def cx144:Cx:=⟨Tryz.prog,[e194],[],8,[],[]⟩
def F144:ByteArray × Int × Unit → Option (Int × Unit):=func cx144 Tryz.f144 b144 sh144 out144
def e144:FE:=⟨144,sh144,out144,F144⟩
theorem ok144:FEOK Tryz.prog e144:=fk cx144 ⟨ok194,trivial⟩ [] trivial
abbrev sh195:Shape:=⟨[(0,oS),(1,oS)],[]⟩
abbrev out195:Shape:=⟨[(0,oB)],[]⟩
noncomputable def b195:Code:=Tryz.f195.body.getD .skip
noncomputable def cx195:Cx:=⟨Tryz.prog,[],[],18,[],[]⟩
def F195:ByteArray × ByteArray × Unit → Option (Bool × Unit):=func cx195 Tryz.f195 b195 sh195 out195
def e195:FE:=⟨195,sh195,out195,F195⟩
theorem ok195:FEOK Tryz.prog e195:=fk cx195 trivial [] trivial
abbrev sh145:Shape:=⟨[(0,oS),(1,oS)],[]⟩
abbrev out145:Shape:=⟨[(0,oB)],[]⟩
noncomputable def b145:Code:=Tryz.f145.body.getD .skip
noncomputable def cx145:Cx:=⟨Tryz.prog,[e195],[],8,[],[]⟩
def F145:ByteArray × ByteArray × Unit → Option (Bool × Unit):=func cx145 Tryz.f145 b145 sh145 out145
def e145:FE:=⟨145,sh145,out145,F145⟩
theorem ok145:FEOK Tryz.prog e145:=fk cx145 ⟨ok195,trivial⟩ [] trivial
abbrev sh146:Shape:=⟨[(0,oS)],[]⟩
abbrev out146:Shape:=⟨[(0,oI),(1,oB)],[]⟩
noncomputable def b146:Code:=Tryz.f146.body.getD .skip
abbrev sh146_0:Shape:=⟨[(0,oS),(4,oI),(25,oI),(26,oI)],[]⟩
abbrev os146_0:List (XE × Shape):=[(.ret,⟨[(2,oI),(3,oB)],[]⟩),(.ex 0,⟨[(4,oI)],[]⟩)]
noncomputable def cx146_0:Cx:=⟨Tryz.prog,[],[],49,[],[]⟩
def B146_0:Rnd (ByteArray × Int × Int × Int × Unit) ((Int × Bool × Unit) ⊕ (Int × Unit)):=round cx146_0 (sub [1,1,1,0,1,0,0] b146) sh146_0 os146_0
def ce146_0:CE:=⟨sh146_0,os146_0,loop B146_0⟩
theorem okc146_0:CEOK Tryz.prog 49 (.at (.loop (sub [1,1,1,0,1,0,0] b146))) ce146_0:=ck cx146_0 trivial [] trivial
noncomputable def cx146:Cx:=⟨Tryz.prog,[],[],49,[(10,ce146_0)],[]⟩
def F146:ByteArray × Unit → Option (Int × Bool × Unit):=func cx146 Tryz.f146 b146 sh146 out146
def e146:FE:=⟨146,sh146,out146,F146⟩
theorem ok146:FEOK Tryz.prog e146:=fk cx146 trivial [((.at (.loop (sub [1,1,1,0,1,0,0] b146))),ce146_0)] ⟨okc146_0,trivial⟩
abbrev sh88:Shape:=⟨[(0,oS)],[]⟩
abbrev out88:Shape:=⟨[(0,.row [dS,dS,dI])],[]⟩
noncomputable def b88:Code:=Tryz.f88.body.getD .skip
noncomputable def cx88:Cx:=⟨Tryz.prog,[e144,e145,e146],[],42,[],[]⟩
def F88:ByteArray × Unit → Option (ByteArray × ByteArray × Int × Unit):=func cx88 Tryz.f88 b88 sh88 out88
def e88:FE:=⟨88,sh88,out88,F88⟩
theorem ok88:FEOK Tryz.prog e88:=fk cx88 ⟨ok144,ok145,ok146,trivial⟩ [] trivial
abbrev sh147:Shape:=⟨[(0,oS)],[]⟩
abbrev out147:Shape:=⟨[(0,oS)],[]⟩
noncomputable def b147:Code:=Tryz.f147.body.getD .skip
noncomputable def cx147:Cx:=⟨Tryz.prog,[],[9],18,[],[]⟩
def F147:ByteArray × Unit → Option (ByteArray × Unit):=func cx147 Tryz.f147 b147 sh147 out147
def e147:FE:=⟨147,sh147,out147,F147⟩
theorem ok147:FEOK Tryz.prog e147:=fk cx147 trivial [] trivial
abbrev sh89:Shape:=⟨[(0,oS)],[]⟩
abbrev out89:Shape:=⟨[(0,oS)],[]⟩
noncomputable def b89:Code:=Tryz.f89.body.getD .skip
noncomputable def cx89:Cx:=⟨Tryz.prog,[e147],[],5,[],[]⟩
def F89:ByteArray × Unit → Option (ByteArray × Unit):=func cx89 Tryz.f89 b89 sh89 out89
def e89:FE:=⟨89,sh89,out89,F89⟩
theorem ok89:FEOK Tryz.prog e89:=fk cx89 ⟨ok147,trivial⟩ [] trivial
abbrev sh59:Shape:=⟨[(0,oS)],[]⟩
abbrev out59:Shape:=⟨[(0,oS),(1,oI)],[]⟩
noncomputable def b59:Code:=Tryz.f59.body.getD .skip
noncomputable def cx59:Cx:=⟨Tryz.prog,[e88,e89],[],12,[],[]⟩
def F59:ByteArray × Unit → Option (ByteArray × Int × Unit):=func cx59 Tryz.f59 b59 sh59 out59
def e59:FE:=⟨59,sh59,out59,F59⟩
theorem ok59:FEOK Tryz.prog e59:=fk cx59 ⟨ok88,ok89,trivial⟩ [] trivial
abbrev sh148:Shape:=⟨[(0,oS),(1,oS)],[]⟩
abbrev out148:Shape:=⟨[(0,oS),(1,oB)],[]⟩
noncomputable def b148:Code:=Tryz.f148.body.getD .skip
noncomputable def cx148:Cx:=⟨Tryz.prog,[e195],[],15,[],[]⟩
def F148:ByteArray × ByteArray × Unit → Option (ByteArray × Bool × Unit):=func cx148 Tryz.f148 b148 sh148 out148
def e148:FE:=⟨148,sh148,out148,F148⟩
theorem ok148:FEOK Tryz.prog e148:=fk cx148 ⟨ok195,trivial⟩ [] trivial
abbrev sh90:Shape:=⟨[(0,oS),(1,oS)],[]⟩
abbrev out90:Shape:=⟨[(0,oS),(1,oB)],[]⟩
noncomputable def b90:Code:=Tryz.f90.body.getD .skip
noncomputable def cx90:Cx:=⟨Tryz.prog,[e148],[],11,[],[]⟩
def F90:ByteArray × ByteArray × Unit → Option (ByteArray × Bool × Unit):=func cx90 Tryz.f90 b90 sh90 out90
def e90:FE:=⟨90,sh90,out90,F90⟩
theorem ok90:FEOK Tryz.prog e90:=fk cx90 ⟨ok148,trivial⟩ [] trivial
abbrev sh60:Shape:=⟨[(0,oS),(1,oS)],[]⟩
abbrev out60:Shape:=⟨[(0,oB)],[]⟩
noncomputable def b60:Code:=Tryz.f60.body.getD .skip
noncomputable def cx60:Cx:=⟨Tryz.prog,[e90],[],23,[],[]⟩
def F60:ByteArray × ByteArray × Unit → Option (Bool × Unit):=func cx60 Tryz.f60 b60 sh60 out60
def e60:FE:=⟨60,sh60,out60,F60⟩
theorem ok60:FEOK Tryz.prog e60:=fk cx60 ⟨ok90,trivial⟩ [] trivial
abbrev sh196:Shape:=⟨[(0,oS),(1,oS)],[]⟩
abbrev out196:Shape:=⟨[(0,oS),(1,oS),(2,oB)],[]⟩
noncomputable def b196:Code:=Tryz.f196.body.getD .skip
noncomputable def cx196:Cx:=⟨Tryz.prog,[e239],[],23,[],[]⟩
def F196:ByteArray × ByteArray × Unit → Option (ByteArray × ByteArray × Bool × Unit):=func cx196 Tryz.f196 b196 sh196 out196
def e196:FE:=⟨196,sh196,out196,F196⟩
theorem ok196:FEOK Tryz.prog e196:=fk cx196 ⟨ok239,trivial⟩ [] trivial
abbrev sh149:Shape:=⟨[(0,oS),(1,oS)],[]⟩
abbrev out149:Shape:=⟨[(0,oS),(1,oS),(2,oB)],[]⟩
noncomputable def b149:Code:=Tryz.f149.body.getD .skip
noncomputable def cx149:Cx:=⟨Tryz.prog,[e196],[],13,[],[]⟩
def F149:ByteArray × ByteArray × Unit → Option (ByteArray × ByteArray × Bool × Unit):=func cx149 Tryz.f149 b149 sh149 out149
def e149:FE:=⟨149,sh149,out149,F149⟩
theorem ok149:FEOK Tryz.prog e149:=fk cx149 ⟨ok196,trivial⟩ [] trivial
abbrev sh197:Shape:=⟨[(0,oI)],[]⟩
abbrev out197:Shape:=⟨[(0,oB)],[]⟩
noncomputable def b197:Code:=Tryz.f197.body.getD .skip
noncomputable def cx197:Cx:=⟨Tryz.prog,[],[],9,[],[]⟩
def F197:Int × Unit → Option (Bool × Unit):=func cx197 Tryz.f197 b197 sh197 out197
def e197:FE:=⟨197,sh197,out197,F197⟩
theorem ok197:FEOK Tryz.prog e197:=fk cx197 trivial [] trivial
abbrev sh241:Shape:=⟨[(0,oS),(1,.one (.d (.int .u8)))],[]⟩
abbrev out241:Shape:=⟨[(0,oI)],[]⟩
noncomputable def b241:Code:=Tryz.f241.body.getD .skip
noncomputable def cx241:Cx:=⟨Tryz.prog,[e272],[],8,[],[]⟩
def F241:ByteArray × Int × Unit → Option (Int × Unit):=func cx241 Tryz.f241 b241 sh241 out241
def e241:FE:=⟨241,sh241,out241,F241⟩
theorem ok241:FEOK Tryz.prog e241:=fk cx241 ⟨ok272,trivial⟩ [] trivial
abbrev sh200:Shape:=⟨[(0,oS)],[]⟩
abbrev out200:Shape:=⟨[(0,oB)],[]⟩
noncomputable def b200:Code:=Tryz.f200.body.getD .skip
abbrev sh200_0:Shape:=⟨[(0,oS),(5,oI),(6,oI)],[]⟩
abbrev os200_0:List (XE × Shape):=[(.ret,⟨[(2,oB)],[]⟩),(.ex 0,⟨[(0,oS)],[]⟩)]
noncomputable def cx200_0:Cx:=⟨Tryz.prog,[e188,e241],[],32,[],[]⟩
def B200_0:Rnd (ByteArray × Int × Int × Unit) ((Bool × Unit) ⊕ (ByteArray × Unit)):=round cx200_0 (sub [1,0,1,0,0] b200) sh200_0 os200_0
def ce200_0:CE:=⟨sh200_0,os200_0,loop B200_0⟩
theorem okc200_0:CEOK Tryz.prog 32 (.at (.loop (sub [1,0,1,0,0] b200))) ce200_0:=ck cx200_0 ⟨ok188,ok241,trivial⟩ [] trivial
noncomputable def cx200:Cx:=⟨Tryz.prog,[e188,e241],[],32,[(4,ce200_0)],[]⟩
def F200:ByteArray × Unit → Option (Bool × Unit):=func cx200 Tryz.f200 b200 sh200 out200
def e200:FE:=⟨200,sh200,out200,F200⟩
theorem ok200:FEOK Tryz.prog e200:=fk cx200 ⟨ok188,ok241,trivial⟩ [((.at (.loop (sub [1,0,1,0,0] b200))),ce200_0)] ⟨okc200_0,trivial⟩
abbrev sh199:Shape:=⟨[(0,oS)],[]⟩
abbrev out199:Shape:=⟨[(0,oB)],[]⟩
noncomputable def b199:Code:=Tryz.f199.body.getD .skip
noncomputable def cx199:Cx:=⟨Tryz.prog,[e200],[],6,[],[]⟩
def F199:ByteArray × Unit → Option (Bool × Unit):=func cx199 Tryz.f199 b199 sh199 out199
def e199:FE:=⟨199,sh199,out199,F199⟩
theorem ok199:FEOK Tryz.prog e199:=fk cx199 ⟨ok200,trivial⟩ [] trivial
abbrev sh240:Shape:=⟨[(0,.one (.d (.list .str))),(1,.one (.fn 199))],[]⟩
abbrev out240:Shape:=⟨[(0,oI)],[]⟩
noncomputable def b240:Code:=Tryz.f240.body.getD .skip
abbrev sh240_0:Shape:=⟨[(0,.one (.d (.list .str))),(1,.one (.fn 199)),(7,oI),(8,oI)],[]⟩
abbrev os240_0:List (XE × Shape):=[(.ret,⟨[(4,oI)],[]⟩),(.ex 0,⟨[],[]⟩)]
noncomputable def cx240_0:Cx:=⟨Tryz.prog,[e199],[],19,[],[]⟩
def B240_0:Rnd (List ByteArray × Int × Int × Unit) ((Int × Unit) ⊕ (Unit)):=round cx240_0 (sub [1,0,1,0,0] b240) sh240_0 os240_0
def ce240_0:CE:=⟨sh240_0,os240_0,loop B240_0⟩
theorem okc240_0:CEOK Tryz.prog 19 (.at (.loop (sub [1,0,1,0,0] b240))) ce240_0:=ck cx240_0 ⟨ok199,trivial⟩ [] trivial
noncomputable def cx240:Cx:=⟨Tryz.prog,[e199],[],19,[(4,ce240_0)],[]⟩
def F240:List ByteArray × Unit → Option (Int × Unit):=func cx240 Tryz.f240 b240 sh240 out240
def e240:FE:=⟨240,sh240,out240,F240⟩
theorem ok240:FEOK Tryz.prog e240:=fk cx240 ⟨ok199,trivial⟩ [((.at (.loop (sub [1,0,1,0,0] b240))),ce240_0)] ⟨okc240_0,trivial⟩
abbrev sh198:Shape:=⟨[(0,.one (.d (.list .str))),(1,.one (.fn 199))],[]⟩
abbrev out198:Shape:=⟨[(0,oB)],[]⟩
noncomputable def b198:Code:=Tryz.f198.body.getD .skip
noncomputable def cx198:Cx:=⟨Tryz.prog,[e240],[],9,[],[]⟩
def F198:List ByteArray × Unit → Option (Bool × Unit):=func cx198 Tryz.f198 b198 sh198 out198
def e198:FE:=⟨198,sh198,out198,F198⟩
theorem ok198:FEOK Tryz.prog e198:=fk cx198 ⟨ok240,trivial⟩ [] trivial
abbrev sh150:Shape:=⟨[(0,.row [dI,dI,dI,dS])],[]⟩
abbrev out150:Shape:=⟨[(0,oB)],[]⟩
noncomputable def b150:Code:=Tryz.f150.body.getD .skip
noncomputable def cx150:Cx:=⟨Tryz.prog,[e136,e197,e198],[],33,[],[]⟩
def F150:Int × Int × Int × ByteArray × Unit → Option (Bool × Unit):=func cx150 Tryz.f150 b150 sh150 out150
def e150:FE:=⟨150,sh150,out150,F150⟩
theorem ok150:FEOK Tryz.prog e150:=fk cx150 ⟨ok136,ok197,ok198,trivial⟩ [] trivial
abbrev sh91:Shape:=⟨[(0,oS)],[]⟩
abbrev out91:Shape:=⟨[(0,.row [dI,dI,dI,dS]),(1,oB)],[]⟩
noncomputable def b91:Code:=Tryz.f91.body.getD .skip
abbrev sh91_0:Shape:=⟨[(2,.one (.ptr 200000 0)),(4,.one (.ptr 200001 0)),(7,oS),(9,.one (.d (.list .str))),(43,.one (.bs 200002 3)),(44,oI),(45,oI)],[(200000,.box 47 [dI,dI,dI,dS]),(200001,.box 47 [dI,dI,dI,dS]),(200002,.box 230 [.ptr 200001 0,.ptr 200001 1,.ptr 200001 2])]⟩
abbrev os91_0:List (XE × Shape):=[(.ret,⟨[(2,.one (.ptr 200000 0)),(3,oB)],[(200000,.box 47 [dI,dI,dI,dS])]⟩),(.ex 0,⟨[(2,.one (.ptr 200000 0)),(4,.one (.ptr 200001 0)),(7,oS)],[(200000,.box 47 [dI,dI,dI,dS]),(200001,.box 47 [dI,dI,dI,dS])]⟩)]
noncomputable def cx91_0:Cx:=⟨Tryz.prog,[e89,e90,e136,e146,e149,e150],[],72,[],[]⟩
def B91_0:Rnd (ByteArray × List ByteArray × Int × Int × Int × Int × Int × ByteArray × Int × Int × Int × ByteArray × Unit) ((Bool × Int × Int × Int × ByteArray × Unit) ⊕ (ByteArray × Int × Int × Int × ByteArray × Int × Int × Int × ByteArray × Unit)):=round cx91_0 (sub [1,1,1,1,1,1,0,1,0,0] b91) sh91_0 os91_0
def ce91_0:CE:=⟨sh91_0,os91_0,loop B91_0⟩
theorem okc91_0:CEOK Tryz.prog 72 (.at (.loop (sub [1,1,1,1,1,1,0,1,0,0] b91))) ce91_0:=ck cx91_0 ⟨ok89,ok90,ok136,ok146,ok149,ok150,trivial⟩ [] trivial
noncomputable def cx91:Cx:=⟨Tryz.prog,[e89,e90,e136,e146,e149,e150],[],72,[(16,ce91_0)],[]⟩
def F91:ByteArray × Unit → Option (Int × Int × Int × ByteArray × Bool × Unit):=func cx91 Tryz.f91 b91 sh91 out91
def e91:FE:=⟨91,sh91,out91,F91⟩
theorem ok91:FEOK Tryz.prog e91:=fk cx91 ⟨ok89,ok90,ok136,ok146,ok149,ok150,trivial⟩ [((.at (.loop (sub [1,1,1,1,1,1,0,1,0,0] b91))),ce91_0)] ⟨okc91_0,trivial⟩
abbrev sh242:Shape:=⟨[(0,oS),(1,oS)],[]⟩
abbrev out242:Shape:=⟨[(0,oB)],[]⟩
noncomputable def b242:Code:=Tryz.f242.body.getD .skip
noncomputable def cx242:Cx:=⟨Tryz.prog,[e276],[],13,[],[]⟩
def F242:ByteArray × ByteArray × Unit → Option (Bool × Unit):=func cx242 Tryz.f242 b242 sh242 out242
def e242:FE:=⟨242,sh242,out242,F242⟩
theorem ok242:FEOK Tryz.prog e242:=fk cx242 ⟨ok276,trivial⟩ [] trivial
abbrev sh201:Shape:=⟨[(0,oS)],[]⟩
abbrev out201:Shape:=⟨[(0,oB)],[]⟩
noncomputable def b201:Code:=Tryz.f201.body.getD .skip
noncomputable def cx201:Cx:=⟨Tryz.prog,[e242],[],15,[],[]⟩
def F201:ByteArray × Unit → Option (Bool × Unit):=func cx201 Tryz.f201 b201 sh201 out201
def e201:FE:=⟨201,sh201,out201,F201⟩
theorem ok201:FEOK Tryz.prog e201:=fk cx201 ⟨ok242,trivial⟩ [] trivial
abbrev sh151:Shape:=⟨[(0,oB),(1,.row [dI,dI,dI,dS]),(2,oI),(3,oS)],[]⟩
abbrev out151:Shape:=⟨[(0,.row [dI,dI,dI,dS]),(1,oB)],[]⟩
noncomputable def b151:Code:=Tryz.f151.body.getD .skip
noncomputable def cx151:Cx:=⟨Tryz.prog,[e150,e201,e202],[],58,[],[]⟩
def F151:Bool × Int × Int × Int × ByteArray × Int × ByteArray × Unit → Option (Int × Int × Int × ByteArray × Bool × Unit):=func cx151 Tryz.f151 b151 sh151 out151
def e151:FE:=⟨151,sh151,out151,F151⟩
theorem ok151:FEOK Tryz.prog e151:=fk cx151 ⟨ok150,ok201,ok202,trivial⟩ [] trivial
abbrev sh92:Shape:=⟨[(0,.row [.d (.list r2),.d (.list r3)]),(1,oS),(2,oS)],[]⟩
abbrev out92:Shape:=⟨[(0,.row [dI,dI,dI,dS]),(1,oB)],[]⟩
noncomputable def b92:Code:=Tryz.f92.body.getD .skip
abbrev sh92_0:Shape:=⟨[(1,oS),(2,oS),(6,.one (.ptr 200000 0)),(8,.one (.own 200001)),(12,.one (.d (.list r3))),(13,oI),(14,oI)],[(200000,.box 47 [dI,dI,dI,dS]),(200001,.lst 82 r3 true)]⟩
abbrev os92_0:List (XE × Shape):=[(.ex 0,⟨[(6,.one (.ptr 200000 0)),(8,.one (.own 200001))],[(200000,.box 47 [dI,dI,dI,dS]),(200001,.lst 82 r3 true)]⟩)]
noncomputable def cx92_0:Cx:=⟨Tryz.prog,[e145,e151],[],71,[],[]⟩
def B92_0:Rnd (ByteArray × ByteArray × List R3 × Int × Int × Int × Int × Int × ByteArray × List R3 × Unit) (Int × Int × Int × ByteArray × List R3 × Unit):=round cx92_0 (sub [1,1,0,1,0,0] b92) sh92_0 os92_0
def ce92_0:CE:=⟨sh92_0,os92_0,loop B92_0⟩
theorem okc92_0:CEOK Tryz.prog 71 (.at (.loop (sub [1,1,0,1,0,0] b92))) ce92_0:=ck cx92_0 ⟨ok145,ok151,trivial⟩ [] trivial
noncomputable def cx92:Cx:=⟨Tryz.prog,[e145,e151],[],71,[(6,ce92_0)],[]⟩
def F92:List R2 × List R3 × ByteArray × ByteArray × Unit → Option (Int × Int × Int × ByteArray × Bool × Unit):=func cx92 Tryz.f92 b92 sh92 out92
def e92:FE:=⟨92,sh92,out92,F92⟩
theorem ok92:FEOK Tryz.prog e92:=fk cx92 ⟨ok145,ok151,trivial⟩ [((.at (.loop (sub [1,1,0,1,0,0] b92))),ce92_0)] ⟨okc92_0,trivial⟩
abbrev sh152:Shape:=⟨[(0,.row [dS,dS,dI]),(1,.row [dI,dI,dI,dS])],[]⟩
abbrev out152:Shape:=⟨[(0,oB)],[]⟩
noncomputable def b152:Code:=Tryz.f152.body.getD .skip
noncomputable def cx152:Cx:=⟨Tryz.prog,[],[],20,[],[]⟩
def F152:ByteArray × ByteArray × Int × Int × Int × Int × ByteArray × Unit → Option (Bool × Unit):=func cx152 Tryz.f152 b152 sh152 out152
def e152:FE:=⟨152,sh152,out152,F152⟩
theorem ok152:FEOK Tryz.prog e152:=fk cx152 trivial [] trivial
abbrev sh93:Shape:=⟨[(0,oS),(1,.row [dI,dI,dI,dS])],[]⟩
abbrev out93:Shape:=⟨[(0,oB)],[]⟩
noncomputable def b93:Code:=Tryz.f93.body.getD .skip
noncomputable def cx93:Cx:=⟨Tryz.prog,[e88,e152],[],9,[],[]⟩
def F93:ByteArray × Int × Int × Int × ByteArray × Unit → Option (Bool × Unit):=func cx93 Tryz.f93 b93 sh93 out93
def e93:FE:=⟨93,sh93,out93,F93⟩
theorem ok93:FEOK Tryz.prog e93:=fk cx93 ⟨ok88,ok152,trivial⟩ [] trivial
abbrev sh203:Shape:=⟨[(0,.row [.d (.list r2),.d (.list r3)]),(1,oS)],[]⟩
abbrev out203:Shape:=⟨[(0,.row [dS,.d (.list r1)]),(1,oB)],[]⟩
noncomputable def b203:Code:=Tryz.f203.body.getD .skip
abbrev sh203_0:Shape:=⟨[(1,oS),(4,.one (.ptr 200000 0)),(10,.one (.d (.list r2))),(11,oI),(12,oI)],[(200000,.box 56 [dS,.nilS])]⟩
abbrev os203_0:List (XE × Shape):=[(.ret,⟨[(4,.one (.ptr 200000 0)),(5,oB)],[(200000,.box 56 [dS,.d (.list r1)])]⟩),(.ex 0,⟨[(4,.one (.ptr 200000 0))],[(200000,.box 56 [dS,.nilS])]⟩)]
noncomputable def cx203_0:Cx:=⟨Tryz.prog,[],[],23,[],[]⟩
def B203_0:Rnd (ByteArray × List R2 × Int × Int × ByteArray × Unit) ((Bool × ByteArray × List R1 × Unit) ⊕ (ByteArray × Unit)):=round cx203_0 (sub [1,0,1,0,0] b203) sh203_0 os203_0
def ce203_0:CE:=⟨sh203_0,os203_0,loop B203_0⟩
theorem okc203_0:CEOK Tryz.prog 23 (.at (.loop (sub [1,0,1,0,0] b203))) ce203_0:=ck cx203_0 trivial [] trivial
noncomputable def cx203:Cx:=⟨Tryz.prog,[],[],23,[(4,ce203_0)],[]⟩
def F203:List R2 × List R3 × ByteArray × Unit → Option (ByteArray × List R1 × Bool × Unit):=func cx203 Tryz.f203 b203 sh203 out203
def e203:FE:=⟨203,sh203,out203,F203⟩
theorem ok203:FEOK Tryz.prog e203:=fk cx203 trivial [((.at (.loop (sub [1,0,1,0,0] b203))),ce203_0)] ⟨okc203_0,trivial⟩
abbrev sh153:Shape:=⟨[(0,.row [.d (.list r2),.d (.list r3)]),(1,oS),(2,.row [dI,dI,dI,dS])],[]⟩
abbrev out153:Shape:=⟨[(0,.row [dI,dI,dI,dS,.d (.list r0),dS,dS]),(1,oB)],[]⟩
noncomputable def b153:Code:=Tryz.f153.body.getD .skip
abbrev sh153_0:Shape:=⟨[(5,.one (.ptr 200000 0)),(6,.one (.ptr 200001 0)),(19,.one (.d (.list r1))),(20,oI),(21,oI)],[(200000,.box 47 [dI,dI,dI,dS]),(200001,.box 59 [dI,dI,dI,dS,.nilS,dS,dS])]⟩
abbrev os153_0:List (XE × Shape):=[(.ret,⟨[(6,.one (.ptr 200000 0)),(7,oB)],[(200000,.box 59 [dI,dI,dI,dS,.d (.list r0),dS,dS])]⟩),(.ex 0,⟨[(6,.one (.ptr 200000 0))],[(200000,.box 59 [dI,dI,dI,dS,.nilS,dS,dS])]⟩)]
noncomputable def cx153_0:Cx:=⟨Tryz.prog,[e203],[],32,[],[]⟩
def B153_0:Rnd (List R1 × Int × Int × Int × Int × Int × ByteArray × Int × Int × Int × ByteArray × ByteArray × ByteArray × Unit) ((Bool × Int × Int × Int × ByteArray × List R0 × ByteArray × ByteArray × Unit) ⊕ (Int × Int × Int × ByteArray × ByteArray × ByteArray × Unit)):=round cx153_0 (sub [1,1,0,1,0,0] b153) sh153_0 os153_0
def ce153_0:CE:=⟨sh153_0,os153_0,loop B153_0⟩
theorem okc153_0:CEOK Tryz.prog 32 (.at (.loop (sub [1,1,0,1,0,0] b153))) ce153_0:=ck cx153_0 ⟨ok203,trivial⟩ [] trivial
noncomputable def cx153:Cx:=⟨Tryz.prog,[e203],[],32,[(6,ce153_0)],[]⟩
def F153:List R2 × List R3 × ByteArray × Int × Int × Int × ByteArray × Unit → Option (Int × Int × Int × ByteArray × List R0 × ByteArray × ByteArray × Bool × Unit):=func cx153 Tryz.f153 b153 sh153 out153
def e153:FE:=⟨153,sh153,out153,F153⟩
theorem ok153:FEOK Tryz.prog e153:=fk cx153 ⟨ok203,trivial⟩ [((.at (.loop (sub [1,1,0,1,0,0] b153))),ce153_0)] ⟨okc153_0,trivial⟩
abbrev sh47:Shape:=⟨[(0,.one (.d (.list r0)))],[]⟩
abbrev out47:Shape:=⟨[(0,.one (.own 200000))],[(200000,.lst 68 r0 true)]⟩
noncomputable def b47:Code:=Tryz.f47.body.getD .skip
noncomputable def cx47:Cx:=⟨Tryz.prog,[],[],8,[],[]⟩
def Fg47:List R0 × Unit → Option (List R0 × Unit):=func cx47 Tryz.f47 b47 sh47 out47
theorem okg47:FEOK Tryz.prog ⟨47,sh47,out47,Fg47⟩:=fk cx47 trivial [] trivial
def F47:List R0 × Unit → Option (List R0 × Unit):=fun (x0,_) => bif Nat.ble (List.length x0) 2513169434916 then some (x0,()) else none
def e47:FE:=⟨47,sh47,out47,F47⟩
theorem Fg47_eq (x0:List R0):Fg47 (x0,()) = bif List.isEmpty x0 then both (some ([],())) (bif decide (0 + List.length x0 ≤ 2513169434916) then some ([] ++ x0,()) else none) else (bif decide (0 + List.length x0 ≤ 2513169434916) then some ([] ++ x0,()) else none):=by kernel_rfl
theorem ok47:FEOK Tryz.prog e47:=by
 intro p r hr
 obtain ⟨x0,⟨⟩⟩:=p
 exact okg47 (x0,()) r (clone_ok (l:=x0) (Fg47_eq x0) hr (fun h => by cases x0 with | nil => rfl | cons _ _ => cases h) rfl)
abbrev sh94:Shape:=⟨[(0,.row [.d (.list r2),.d (.list r3)]),(1,oS),(2,.row [dI,dI,dI,dS])],[]⟩
abbrev out94:Shape:=⟨[(0,.row [dI,dI,dI,dS,.d (.list r0),dS,dS]),(1,oB)],[]⟩
noncomputable def b94:Code:=Tryz.f94.body.getD .skip
noncomputable def cx94:Cx:=⟨Tryz.prog,[e47,e153],[],24,[],[]⟩
def F94:List R2 × List R3 × ByteArray × Int × Int × Int × ByteArray × Unit → Option (Int × Int × Int × ByteArray × List R0 × ByteArray × ByteArray × Bool × Unit):=func cx94 Tryz.f94 b94 sh94 out94
def e94:FE:=⟨94,sh94,out94,F94⟩
theorem ok94:FEOK Tryz.prog e94:=fk cx94 ⟨ok47,ok153,trivial⟩ [] trivial
abbrev sh61:Shape:=⟨[(0,.row [.d (.list r2),.d (.list r3)]),(1,.row [dS,dS,dS,dS,dS]),(2,oS)],[]⟩
abbrev out61:Shape:=⟨[(0,.row [dI,dI,dI,dS]),(1,oB)],[]⟩
noncomputable def b61:Code:=Tryz.f61.body.getD .skip
noncomputable def cx61:Cx:=⟨Tryz.prog,[e91,e92,e93,e94],[],58,[],[]⟩
def F61:List R2 × List R3 × ByteArray × ByteArray × ByteArray × ByteArray × ByteArray × ByteArray × Unit → Option (Int × Int × Int × ByteArray × Bool × Unit):=func cx61 Tryz.f61 b61 sh61 out61
def e61:FE:=⟨61,sh61,out61,F61⟩
theorem ok61:FEOK Tryz.prog e61:=fk cx61 ⟨ok91,ok92,ok93,ok94,trivial⟩ [] trivial
abbrev sh31:Shape:=⟨[(0,.row [.d (.list r2),.d (.list r3)]),(1,.row [dS,dS,dS,dS,dS])],[]⟩
abbrev out31:Shape:=⟨[(0,.row [dS,dI,dI,dI,dS,dS,dI,dI,dI,dS]),(1,oI)],[]⟩
noncomputable def b31:Code:=Tryz.f31.body.getD .skip
abbrev sh31_0:Shape:=⟨[(2,.one (.ptr 200000 0)),(3,.one (.ptr 200001 0)),(4,.one (.ptr 200002 0)),(6,.one (.ptr 200003 0)),(7,oI),(8,oI),(16,.one (.d (.list .str))),(17,oI),(18,oI)],[(200000,.box 27 [.d (.list r2),.d (.list r3)]),(200001,.box 44 [dS,dS,dS,dS,dS]),(200002,.box 64 [dS,dI,dI,dI,dS,dS,dI,dI,dI,dS]),(200003,.box 64 [dS,dI,dI,dI,dS,dS,dI,dI,dI,dS])]⟩
abbrev os31_0:List (XE × Shape):=[(.ex 0,⟨[(3,.one (.ptr 200000 0)),(4,.one (.ptr 200001 0)),(6,.one (.ptr 200002 0)),(7,oI)],[(200000,.box 44 [dS,dS,dS,dS,dS]),(200001,.box 64 [dS,dI,dI,dI,dS,dS,dI,dI,dI,dS]),(200002,.box 64 [dS,dI,dI,dI,dS,dS,dI,dI,dI,dS])]⟩)]
noncomputable def cx31_0:Cx:=⟨Tryz.prog,[e45,e58,e59,e60,e61],[],83,[],[]⟩
def B31_0:Rnd (Int × Int × List ByteArray × Int × Int × List R2 × List R3 × ByteArray × ByteArray × ByteArray × ByteArray × ByteArray × ByteArray × Int × Int × Int × ByteArray × ByteArray × Int × Int × Int × ByteArray × ByteArray × Int × Int × Int × ByteArray × ByteArray × Int × Int × Int × ByteArray × Unit) (Int × ByteArray × ByteArray × ByteArray × ByteArray × ByteArray × ByteArray × Int × Int × Int × ByteArray × ByteArray × Int × Int × Int × ByteArray × ByteArray × Int × Int × Int × ByteArray × ByteArray × Int × Int × Int × ByteArray × Unit):=round cx31_0 (sub [1,1,1,1,0,1,0,0] b31) sh31_0 os31_0
def ce31_0:CE:=⟨sh31_0,os31_0,loop B31_0⟩
theorem okc31_0:CEOK Tryz.prog 83 (.at (.loop (sub [1,1,1,1,0,1,0,0] b31))) ce31_0:=ck cx31_0 ⟨ok45,ok58,ok59,ok60,ok61,trivial⟩ [] trivial
noncomputable def cx31:Cx:=⟨Tryz.prog,[e45,e58,e59,e60,e61],[],83,[(10,ce31_0)],[]⟩
def F31:List R2 × List R3 × ByteArray × ByteArray × ByteArray × ByteArray × ByteArray × Unit → Option (ByteArray × Int × Int × Int × ByteArray × ByteArray × Int × Int × Int × ByteArray × Int × Unit):=func cx31 Tryz.f31 b31 sh31 out31
def e31:FE:=⟨31,sh31,out31,F31⟩
theorem ok31:FEOK Tryz.prog e31:=fk cx31 ⟨ok45,ok58,ok59,ok60,ok61,trivial⟩ [((.at (.loop (sub [1,1,1,1,0,1,0,0] b31))),ce31_0)] ⟨okc31_0,trivial⟩
abbrev sh32:Shape:=⟨[(0,.one (.d (.list r6))),(1,oS)],[]⟩
abbrev out32:Shape:=⟨[(0,.row [dS,dI,dI,dI,dS,dS,dI,dI,dI,dS]),(1,oB)],[]⟩
noncomputable def b32:Code:=Tryz.f32.body.getD .skip
abbrev sh32_0:Shape:=⟨[(1,oS),(4,.one (.ptr 200000 0)),(8,.one (.d (.list r6))),(9,oI),(10,oI)],[(200000,.box 64 [dS,dI,dI,dI,dS,dS,dI,dI,dI,dS])]⟩
abbrev os32_0:List (XE × Shape):=[(.ret,⟨[(4,.one (.ptr 200000 0)),(5,oB)],[(200000,.box 64 [dS,dI,dI,dI,dS,dS,dI,dI,dI,dS])]⟩),(.ex 0,⟨[(4,.one (.ptr 200000 0))],[(200000,.box 64 [dS,dI,dI,dI,dS,dS,dI,dI,dI,dS])]⟩)]
noncomputable def cx32_0:Cx:=⟨Tryz.prog,[],[],21,[],[]⟩
def B32_0:Rnd (ByteArray × List R6 × Int × Int × ByteArray × Int × Int × Int × ByteArray × ByteArray × Int × Int × Int × ByteArray × Unit) ((Bool × ByteArray × Int × Int × Int × ByteArray × ByteArray × Int × Int × Int × ByteArray × Unit) ⊕ (ByteArray × Int × Int × Int × ByteArray × ByteArray × Int × Int × Int × ByteArray × Unit)):=round cx32_0 (sub [1,0,1,0,0] b32) sh32_0 os32_0
def ce32_0:CE:=⟨sh32_0,os32_0,loop B32_0⟩
theorem okc32_0:CEOK Tryz.prog 21 (.at (.loop (sub [1,0,1,0,0] b32))) ce32_0:=ck cx32_0 trivial [] trivial
noncomputable def cx32:Cx:=⟨Tryz.prog,[],[],21,[(4,ce32_0)],[]⟩
def F32:List R6 × ByteArray × Unit → Option (ByteArray × Int × Int × Int × ByteArray × ByteArray × Int × Int × Int × ByteArray × Bool × Unit):=func cx32 Tryz.f32 b32 sh32 out32
def e32:FE:=⟨32,sh32,out32,F32⟩
theorem ok32:FEOK Tryz.prog e32:=fk cx32 trivial [((.at (.loop (sub [1,0,1,0,0] b32))),ce32_0)] ⟨okc32_0,trivial⟩
abbrev sh32v1:Shape:=⟨[(0,.one (.own 100000)),(1,oS)],[(100000,.lst 64 r6 false)]⟩
abbrev out32v1:Shape:=⟨[(0,.row [dS,dI,dI,dI,dS,dS,dI,dI,dI,dS]),(1,oB)],[(100000,.lst 64 r6 false)]⟩
noncomputable def b32v1:Code:=Tryz.f32.body.getD .skip
abbrev sh32v1_0:Shape:=⟨[(1,oS),(4,.one (.ptr 200000 0)),(8,.one (.own 100000)),(9,oI),(10,oI)],[(100000,.lst 64 r6 false),(200000,.box 64 [dS,dI,dI,dI,dS,dS,dI,dI,dI,dS])]⟩
abbrev os32v1_0:List (XE × Shape):=[(.ret,⟨[(4,.one (.ptr 200000 0)),(5,oB)],[(100000,.lst 64 r6 false),(200000,.box 64 [dS,dI,dI,dI,dS,dS,dI,dI,dI,dS])]⟩),(.ex 0,⟨[(4,.one (.ptr 200000 0))],[(100000,.lst 64 r6 false),(200000,.box 64 [dS,dI,dI,dI,dS,dS,dI,dI,dI,dS])]⟩)]
noncomputable def cx32v1_0:Cx:=⟨Tryz.prog,[],[],21,[],[]⟩
def B32v1_0:Rnd (ByteArray × Int × Int × List R6 × ByteArray × Int × Int × Int × ByteArray × ByteArray × Int × Int × Int × ByteArray × Unit) ((Bool × List R6 × ByteArray × Int × Int × Int × ByteArray × ByteArray × Int × Int × Int × ByteArray × Unit) ⊕ (List R6 × ByteArray × Int × Int × Int × ByteArray × ByteArray × Int × Int × Int × ByteArray × Unit)):=round cx32v1_0 (sub [1,0,1,0,0] b32v1) sh32v1_0 os32v1_0
def ce32v1_0:CE:=⟨sh32v1_0,os32v1_0,loop B32v1_0⟩
theorem okc32v1_0:CEOK Tryz.prog 21 (.at (.loop (sub [1,0,1,0,0] b32v1))) ce32v1_0:=ck cx32v1_0 trivial [] trivial
noncomputable def cx32v1:Cx:=⟨Tryz.prog,[],[],21,[(4,ce32v1_0)],[]⟩
def F32v1:ByteArray × List R6 × Unit → Option (ByteArray × Int × Int × Int × ByteArray × ByteArray × Int × Int × Int × ByteArray × Bool × List R6 × Unit):=func cx32v1 Tryz.f32 b32v1 sh32v1 out32v1
def e32v1:FE:=⟨32,sh32v1,out32v1,F32v1⟩
theorem ok32v1:FEOK Tryz.prog e32v1:=fk cx32v1 trivial [((.at (.loop (sub [1,0,1,0,0] b32v1))),ce32v1_0)] ⟨okc32v1_0,trivial⟩
abbrev sh95:Shape:=⟨[(0,oS)],[]⟩
abbrev out95:Shape:=⟨[(0,.one (.ptr 200000 0))],[(200000,.box 238 [dS,dI])]⟩
noncomputable def b95:Code:=Tryz.f95.body.getD .skip
noncomputable def cx95:Cx:=⟨Tryz.prog,[],[],7,[],[]⟩
def F95:ByteArray × Unit → Option (ByteArray × Int × Unit):=func cx95 Tryz.f95 b95 sh95 out95
def e95:FE:=⟨95,sh95,out95,F95⟩
theorem ok95:FEOK Tryz.prog e95:=fk cx95 trivial [] trivial
abbrev sh204:Shape:=⟨[],[]⟩
abbrev out204:Shape:=⟨[(0,.row [dI,dI,dI,dS])],[]⟩
noncomputable def b204:Code:=Tryz.f204.body.getD .skip
noncomputable def cx204:Cx:=⟨Tryz.prog,[],[],2,[],[]⟩
def F204:Unit → Option (Int × Int × Int × ByteArray × Unit):=func cx204 Tryz.f204 b204 sh204 out204
def e204:FE:=⟨204,sh204,out204,F204⟩
theorem ok204:FEOK Tryz.prog e204:=fk cx204 trivial [] trivial
abbrev sh154:Shape:=⟨[],[]⟩
abbrev out154:Shape:=⟨[(0,.one (.d (.list r8)))],[]⟩
noncomputable def b154:Code:=Tryz.f154.body.getD .skip
noncomputable def cx154:Cx:=⟨Tryz.prog,[e204],[],4,[],[]⟩
def F154:Unit → Option (List R8 × Unit):=func cx154 Tryz.f154 b154 sh154 out154
def e154:FE:=⟨154,sh154,out154,F154⟩
theorem ok154:FEOK Tryz.prog e154:=fk cx154 ⟨ok204,trivial⟩ [] trivial
abbrev sh278:Shape:=⟨[(0,.one (.ptr 100000 0))],[(100000,.box 238 [dS,dI])]⟩
abbrev out278:Shape:=⟨[(0,.one (.d (.int .u8))),(1,oB)],[(100000,.box 238 [dS,dI])]⟩
noncomputable def b278:Code:=Tryz.f278.body.getD .skip
noncomputable def cx278:Cx:=⟨Tryz.prog,[],[],23,[],[]⟩
def F278:ByteArray × Int × Unit → Option (Int × Bool × ByteArray × Int × Unit):=func cx278 Tryz.f278 b278 sh278 out278
def e278:FE:=⟨278,sh278,out278,F278⟩
theorem ok278:FEOK Tryz.prog e278:=fk cx278 trivial [] trivial
abbrev sh244:Shape:=⟨[(0,.one (.ptr 100000 0)),(1,oS)],[(100000,.box 238 [dS,dI])]⟩
abbrev out244:Shape:=⟨[(0,oS)],[(100000,.box 238 [dS,dI])]⟩
noncomputable def b244:Code:=Tryz.f244.body.getD .skip
abbrev sh244_0:Shape:=⟨[(0,.one (.ptr 100000 0)),(1,oS),(5,oI),(6,.one (.d (.int .u8))),(7,oB)],[(100000,.box 238 [dS,dI])]⟩
abbrev os244_0:List (XE × Shape):=[(.ex 0,⟨[(0,.one (.ptr 100000 0)),(5,oI)],[(100000,.box 238 [dS,dI])]⟩)]
noncomputable def cx244_0:Cx:=⟨Tryz.prog,[e89,e241,e278],[],56,[],[]⟩
def B244_0:Rnd (ByteArray × Int × Int × Bool × ByteArray × Int × Unit) (Int × ByteArray × Int × Unit):=round cx244_0 (sub [1,1,0,1,0,0] b244) sh244_0 os244_0
def ce244_0:CE:=⟨sh244_0,os244_0,loop B244_0⟩
theorem okc244_0:CEOK Tryz.prog 56 (.at (.loop (sub [1,1,0,1,0,0] b244))) ce244_0:=ck cx244_0 ⟨ok89,ok241,ok278,trivial⟩ [] trivial
noncomputable def cx244:Cx:=⟨Tryz.prog,[e89,e241,e278],[],56,[(6,ce244_0)],[]⟩
def F244:ByteArray × ByteArray × Int × Unit → Option (ByteArray × ByteArray × Int × Unit):=func cx244 Tryz.f244 b244 sh244 out244
def e244:FE:=⟨244,sh244,out244,F244⟩
theorem ok244:FEOK Tryz.prog e244:=fk cx244 ⟨ok89,ok241,ok278,trivial⟩ [((.at (.loop (sub [1,1,0,1,0,0] b244))),ce244_0)] ⟨okc244_0,trivial⟩
abbrev sh205:Shape:=⟨[(0,.one (.ptr 100000 0))],[(100000,.box 176 [.ptr 100001 0,dS,dS,dI]),(100001,.box 238 [dS,dI])]⟩
abbrev out205:Shape:=⟨[],[(100000,.box 176 [.ptr 100001 0,dS,dS,dI]),(100001,.box 238 [dS,dI])]⟩
noncomputable def b205:Code:=Tryz.f205.body.getD .skip
noncomputable def cx205:Cx:=⟨Tryz.prog,[e244],[],7,[],[]⟩
def F205:ByteArray × ByteArray × Int × ByteArray × Int × Unit → Option (ByteArray × ByteArray × Int × ByteArray × Int × Unit):=func cx205 Tryz.f205 b205 sh205 out205
def e205:FE:=⟨205,sh205,out205,F205⟩
theorem ok205:FEOK Tryz.prog e205:=fk cx205 ⟨ok244,trivial⟩ [] trivial
abbrev sh98:Shape:=⟨[(0,.one (.ptr 100000 0)),(1,oS)],[(100000,.box 238 [dS,dI])]⟩
abbrev out98:Shape:=⟨[(0,oB)],[(100000,.box 238 [dS,dI])]⟩
noncomputable def b98:Code:=Tryz.f98.body.getD .skip
noncomputable def cx98:Cx:=⟨Tryz.prog,[e145],[],29,[],[]⟩
def F98:ByteArray × ByteArray × Int × Unit → Option (Bool × ByteArray × Int × Unit):=func cx98 Tryz.f98 b98 sh98 out98
def e98:FE:=⟨98,sh98,out98,F98⟩
theorem ok98:FEOK Tryz.prog e98:=fk cx98 ⟨ok145,trivial⟩ [] trivial
abbrev sh155:Shape:=⟨[(0,.one (.ptr 100000 0))],[(100000,.box 176 [.ptr 100001 0,dS,dS,dI]),(100001,.box 238 [dS,dI])]⟩
abbrev out155:Shape:=⟨[(0,oB)],[(100000,.box 176 [.ptr 100001 0,dS,dS,dI]),(100001,.box 238 [dS,dI])]⟩
noncomputable def b155:Code:=Tryz.f155.body.getD .skip
noncomputable def cx155:Cx:=⟨Tryz.prog,[e98,e205,e206],[],69,[],[]⟩
def F155:ByteArray × ByteArray × Int × ByteArray × Int × Unit → Option (Bool × ByteArray × ByteArray × Int × ByteArray × Int × Unit):=func cx155 Tryz.f155 b155 sh155 out155
def e155:FE:=⟨155,sh155,out155,F155⟩
theorem ok155:FEOK Tryz.prog e155:=fk cx155 ⟨ok98,ok205,ok206,trivial⟩ [] trivial
abbrev sh163:Shape:=⟨[(0,oB)],[]⟩
abbrev out163:Shape:=⟨[(0,oI)],[]⟩
noncomputable def b163:Code:=Tryz.f163.body.getD .skip
noncomputable def cx163:Cx:=⟨Tryz.prog,[],[],4,[],[]⟩
def F163:Bool × Unit → Option (Int × Unit):=func cx163 Tryz.f163 b163 sh163 out163
def e163:FE:=⟨163,sh163,out163,F163⟩
theorem ok163:FEOK Tryz.prog e163:=fk cx163 trivial [] trivial
abbrev sh102:Shape:=⟨[(0,.row [dI,dI,dI,dS,dB,dB]),(1,.row [dI,dI,dI,dS,dB,dB])],[]⟩
abbrev out102:Shape:=⟨[(0,oI)],[]⟩
noncomputable def b102:Code:=Tryz.f102.body.getD .skip
noncomputable def cx102:Cx:=⟨Tryz.prog,[e45,e78,e163],[],32,[],[]⟩
def F102:Int × Int × Int × ByteArray × Bool × Bool × Int × Int × Int × ByteArray × Bool × Bool × Unit → Option (Int × Unit):=func cx102 Tryz.f102 b102 sh102 out102
def e102:FE:=⟨102,sh102,out102,F102⟩
theorem ok102:FEOK Tryz.prog e102:=fk cx102 ⟨ok45,ok78,ok163,trivial⟩ [] trivial
abbrev sh210:Shape:=⟨[(0,.row [dI,dI,dI,dS,dB,dB,dI,dI,dI,dS,dB,dB])],[]⟩
abbrev out210:Shape:=⟨[(0,oB)],[]⟩
noncomputable def b210:Code:=Tryz.f210.body.getD .skip
noncomputable def cx210:Cx:=⟨Tryz.prog,[e102],[],9,[],[]⟩
def F210:Int × Int × Int × ByteArray × Bool × Bool × Int × Int × Int × ByteArray × Bool × Bool × Unit → Option (Bool × Unit):=func cx210 Tryz.f210 b210 sh210 out210
def e210:FE:=⟨210,sh210,out210,F210⟩
theorem ok210:FEOK Tryz.prog e210:=fk cx210 ⟨ok102,trivial⟩ [] trivial
abbrev sh162:Shape:=⟨[(0,.one (.own 100000)),(1,.one (.fn 210))],[(100000,.lst 185 r9 false)]⟩
abbrev out162:Shape:=⟨[(0,oI)],[(100000,.lst 185 r9 false)]⟩
noncomputable def b162:Code:=Tryz.f162.body.getD .skip
abbrev sh162_0:Shape:=⟨[(0,.one (.own 100000)),(1,.one (.fn 210)),(7,oI),(8,oI)],[(100000,.lst 185 r9 false)]⟩
abbrev os162_0:List (XE × Shape):=[(.ret,⟨[(4,oI)],[(100000,.lst 185 r9 false)]⟩),(.ex 0,⟨[],[(100000,.lst 185 r9 false)]⟩)]
noncomputable def cx162_0:Cx:=⟨Tryz.prog,[e210],[],19,[],[]⟩
def B162_0:Rnd (Int × Int × List R9 × Unit) ((Int × List R9 × Unit) ⊕ (List R9 × Unit)):=round cx162_0 (sub [1,0,1,0,0] b162) sh162_0 os162_0
def ce162_0:CE:=⟨sh162_0,os162_0,loop B162_0⟩
theorem okc162_0:CEOK Tryz.prog 19 (.at (.loop (sub [1,0,1,0,0] b162))) ce162_0:=ck cx162_0 ⟨ok210,trivial⟩ [] trivial
noncomputable def cx162:Cx:=⟨Tryz.prog,[e210],[],19,[(4,ce162_0)],[]⟩
def F162:List R9 × Unit → Option (Int × List R9 × Unit):=func cx162 Tryz.f162 b162 sh162 out162
def e162:FE:=⟨162,sh162,out162,F162⟩
theorem ok162:FEOK Tryz.prog e162:=fk cx162 ⟨ok210,trivial⟩ [((.at (.loop (sub [1,0,1,0,0] b162))),ce162_0)] ⟨okc162_0,trivial⟩
abbrev sh209:Shape:=⟨[(0,.one (.own 100000)),(1,.one (.fn 210))],[(100000,.lst 185 r9 false)]⟩
abbrev out209:Shape:=⟨[(0,.one (.os 100000 12))],[(100000,.lst 185 r9 false)]⟩
noncomputable def b209:Code:=Tryz.f209.body.getD .skip
abbrev sh209_0:Shape:=⟨[(0,.one (.own 100000)),(1,.one (.fn 210)),(5,oI),(6,oI)],[(100000,.lst 185 r9 false)]⟩
abbrev os209_0:List (XE × Shape):=[(.ex 0,⟨[(0,.one (.own 100000)),(5,oI)],[(100000,.lst 185 r9 false)]⟩)]
noncomputable def cx209_0:Cx:=⟨Tryz.prog,[e162,e210],(List.range 42),42,[],[]⟩
def B209_0:Rnd (Int × Int × List R9 × Unit) (Int × List R9 × Unit):=round cx209_0 (sub [1,1,1,0,1,0,0] b209) sh209_0 os209_0
def ce209_0:CE:=⟨sh209_0,os209_0,loop B209_0⟩
theorem okc209_0:CEOK Tryz.prog 42 (.at (.loop (sub [1,1,1,0,1,0,0] b209))) ce209_0:=ck cx209_0 ⟨ok162,ok210,trivial⟩ [] trivial
noncomputable def cx209:Cx:=⟨Tryz.prog,[e162,e210],(List.range 42),42,[(10,ce209_0)],[]⟩
def F209:List R9 × Unit → Option (Nat × Nat × List R9 × Unit):=func cx209 Tryz.f209 b209 sh209 out209
def e209:FE:=⟨209,sh209,out209,F209⟩
theorem ok209:FEOK Tryz.prog e209:=fk cx209 ⟨ok162,ok210,trivial⟩ [((.at (.loop (sub [1,1,1,0,1,0,0] b209))),ce209_0)] ⟨okc209_0,trivial⟩
abbrev sh212:Shape:=⟨[(0,.row [dI,dI,dI,dS,dB,dB,dI,dI,dI,dS,dB,dB]),(1,.row [dI,dI,dI,dS,dB,dB,dI,dI,dI,dS,dB,dB])],[]⟩
abbrev out212:Shape:=⟨[(0,oI)],[]⟩
noncomputable def b212:Code:=Tryz.f212.body.getD .skip
noncomputable def cx212:Cx:=⟨Tryz.prog,[e102],[],10,[],[]⟩
def F212:Int × Int × Int × ByteArray × Bool × Bool × Int × Int × Int × ByteArray × Bool × Bool × Int × Int × Int × ByteArray × Bool × Bool × Int × Int × Int × ByteArray × Bool × Bool × Unit → Option (Int × Unit):=func cx212 Tryz.f212 b212 sh212 out212
def e212:FE:=⟨212,sh212,out212,F212⟩
theorem ok212:FEOK Tryz.prog e212:=fk cx212 ⟨ok102,trivial⟩ [] trivial
abbrev sh213:Shape:=⟨[(0,.one (.d (.list r8)))],[]⟩
abbrev out213:Shape:=⟨[(0,.one (.d (.list r8)))],[]⟩
noncomputable def b213:Code:=Tryz.f213.body.getD .skip
noncomputable def cx213:Cx:=⟨Tryz.prog,[],[],9,[],[]⟩
def F213:List R8 × Unit → Option (List R8 × Unit):=func cx213 Tryz.f213 b213 sh213 out213
def e213:FE:=⟨213,sh213,out213,F213⟩
theorem ok213:FEOK Tryz.prog e213:=fk cx213 trivial [] trivial
abbrev sh308:Shape:=⟨[(0,oS),(1,oS)],[]⟩
abbrev out308:Shape:=⟨[(0,oB)],[]⟩
noncomputable def b308:Code:=Tryz.f308.body.getD .skip
noncomputable def cx308:Cx:=⟨Tryz.prog,[],[],21,[],[]⟩
def F308:ByteArray × ByteArray × Unit → Option (Bool × Unit):=func cx308 Tryz.f308 b308 sh308 out308
def e308:FE:=⟨308,sh308,out308,F308⟩
theorem ok308:FEOK Tryz.prog e308:=fk cx308 trivial [] trivial
abbrev sh280:Shape:=⟨[(0,oS),(1,oS)],[]⟩
abbrev out280:Shape:=⟨[(0,oS),(1,oB)],[]⟩
noncomputable def b280:Code:=Tryz.f280.body.getD .skip
noncomputable def cx280:Cx:=⟨Tryz.prog,[e308],[],18,[],[]⟩
def F280:ByteArray × ByteArray × Unit → Option (ByteArray × Bool × Unit):=func cx280 Tryz.f280 b280 sh280 out280
def e280:FE:=⟨280,sh280,out280,F280⟩
theorem ok280:FEOK Tryz.prog e280:=fk cx280 ⟨ok308,trivial⟩ [] trivial
abbrev sh249:Shape:=⟨[(0,oS),(1,oS)],[]⟩
abbrev out249:Shape:=⟨[(0,oS),(1,oB)],[]⟩
noncomputable def b249:Code:=Tryz.f249.body.getD .skip
noncomputable def cx249:Cx:=⟨Tryz.prog,[e280],[],11,[],[]⟩
def F249:ByteArray × ByteArray × Unit → Option (ByteArray × Bool × Unit):=func cx249 Tryz.f249 b249 sh249 out249
def e249:FE:=⟨249,sh249,out249,F249⟩
theorem ok249:FEOK Tryz.prog e249:=fk cx249 ⟨ok280,trivial⟩ [] trivial
abbrev sh250:Shape:=⟨[(0,.row [dI,dI,dI,dS]),(1,oI)],[]⟩
abbrev out250:Shape:=⟨[(0,.row [dI,dI,dI,dS,dB,dB])],[]⟩
noncomputable def b250:Code:=Tryz.f250.body.getD .skip
abbrev sh250_0:Shape:=⟨[(1,oI),(4,.one (.ptr 200000 0)),(5,.one (.ptr 200001 0)),(6,oI)],[(200000,.box 183 [dI,dI,dI,dS,dB,dB]),(200001,.box 278 [dI,dI,dI])]⟩
abbrev os250_0:List (XE × Shape):=[(.ex 0,⟨[(1,oI),(4,.one (.ptr 200000 0)),(5,.one (.ptr 200001 0))],[(200000,.box 183 [dI,dI,dI,dS,dB,dB]),(200001,.box 278 [dI,dI,dI])]⟩)]
noncomputable def cx250_0:Cx:=⟨Tryz.prog,[],[],46,[],[]⟩
def B250_0:Rnd (Int × Int × Int × Int × Int × ByteArray × Bool × Bool × Int × Int × Int × Unit) (Int × Int × Int × Int × ByteArray × Bool × Bool × Int × Int × Int × Unit):=round cx250_0 (sub [1,1,0,1,0,0] b250) sh250_0 os250_0
def ce250_0:CE:=⟨sh250_0,os250_0,loop B250_0⟩
theorem okc250_0:CEOK Tryz.prog 46 (.at (.loop (sub [1,1,0,1,0,0] b250))) ce250_0:=ck cx250_0 trivial [] trivial
abbrev sh250_1:Shape:=⟨[(1,oI),(4,.one (.ptr 200000 0)),(5,.one (.ptr 200001 0))],[(200000,.box 183 [dI,dI,dI,dS,dB,dB]),(200001,.box 278 [dI,dI,dI])]⟩
abbrev os250_1:List (XE × Shape):=[(.ret,⟨[(4,.one (.ptr 200000 0))],[(200000,.box 183 [dI,dI,dI,dS,dB,dB])]⟩),(.ex 2,⟨[(4,.one (.ptr 200000 0))],[(200000,.box 183 [dI,dI,dI,dS,dB,dB])]⟩)]
noncomputable def cx250_1:Cx:=⟨Tryz.prog,[],[],46,[(6,ce250_0)],[]⟩
def B250_1:Rnd (Int × Int × Int × Int × ByteArray × Bool × Bool × Int × Int × Int × Unit) ((Int × Int × Int × ByteArray × Bool × Bool × Unit) ⊕ (Int × Int × Int × ByteArray × Bool × Bool × Unit)):=round cx250_1 (sub [1,1,1,0,0,0] b250) sh250_1 os250_1
def ce250_1:CE:=⟨sh250_1,os250_1,loop B250_1⟩
theorem okc250_1:CEOK Tryz.prog 46 (.at (.loop (sub [1,1,1,0,0,0] b250))) ce250_1:=ck cx250_1 trivial [] trivial
noncomputable def cx250:Cx:=⟨Tryz.prog,[],[],46,[(6,ce250_0),(12,ce250_1)],[]⟩
def F250:Int × Int × Int × ByteArray × Int × Unit → Option (Int × Int × Int × ByteArray × Bool × Bool × Unit):=func cx250 Tryz.f250 b250 sh250 out250
def e250:FE:=⟨250,sh250,out250,F250⟩
theorem ok250:FEOK Tryz.prog e250:=fk cx250 trivial [((.at (.loop (sub [1,1,0,1,0,0] b250))),ce250_0),((.at (.loop (sub [1,1,1,0,0,0] b250))),ce250_1)] ⟨okc250_0,okc250_1,trivial⟩
abbrev sh100:Shape:=⟨[(0,.one (.d (.list r8)))],[]⟩
abbrev out100:Shape:=⟨[(0,.one (.own 200000))],[(200000,.lst 185 r9 false)]⟩
noncomputable def b100:Code:=Tryz.f100.body.getD .skip
abbrev sh100_0:Shape:=⟨[(3,.one (.own 200000)),(7,.one (.d (.list r8))),(8,oI),(9,oI)],[(200000,.lst 185 r9 false)]⟩
abbrev os100_0:List (XE × Shape):=[(.ex 0,⟨[(3,.one (.own 200000))],[(200000,.lst 185 r9 false)]⟩)]
noncomputable def cx100_0:Cx:=⟨Tryz.prog,[],(List.range 33),33,[],[]⟩
def B100_0:Rnd (List R8 × Int × Int × List R9 × Unit) (List R9 × Unit):=round cx100_0 (sub [1,1,0,1,0,0] b100) sh100_0 os100_0
def ce100_0:CE:=⟨sh100_0,os100_0,loop B100_0⟩
theorem okc100_0:CEOK Tryz.prog 33 (.at (.loop (sub [1,1,0,1,0,0] b100))) ce100_0:=ck cx100_0 trivial [] trivial
noncomputable def cx100:Cx:=⟨Tryz.prog,[],(List.range 33),33,[(6,ce100_0)],[]⟩
def F100:List R8 × Unit → Option (List R9 × Unit):=func cx100 Tryz.f100 b100 sh100 out100
def e100:FE:=⟨100,sh100,out100,F100⟩
theorem ok100:FEOK Tryz.prog e100:=fk cx100 trivial [((.at (.loop (sub [1,1,0,1,0,0] b100))),ce100_0)] ⟨okc100_0,trivial⟩
abbrev sh252:Shape:=⟨[],[]⟩
abbrev out252:Shape:=⟨[(0,.row [dI,dI,dI,dS,dB,dB])],[]⟩
noncomputable def b252:Code:=Tryz.f252.body.getD .skip
noncomputable def cx252:Cx:=⟨Tryz.prog,[],[],2,[],[]⟩
def F252:Unit → Option (Int × Int × Int × ByteArray × Bool × Bool × Unit):=func cx252 Tryz.f252 b252 sh252 out252
def e252:FE:=⟨252,sh252,out252,F252⟩
theorem ok252:FEOK Tryz.prog e252:=fk cx252 trivial [] trivial
abbrev sh253:Shape:=⟨[],[]⟩
abbrev out253:Shape:=⟨[(0,.row [dI,dI,dI,dS,dB,dB])],[]⟩
noncomputable def b253:Code:=Tryz.f253.body.getD .skip
noncomputable def cx253:Cx:=⟨Tryz.prog,[e204],[],3,[],[]⟩
def F253:Unit → Option (Int × Int × Int × ByteArray × Bool × Bool × Unit):=func cx253 Tryz.f253 b253 sh253 out253
def e253:FE:=⟨253,sh253,out253,F253⟩
theorem ok253:FEOK Tryz.prog e253:=fk cx253 ⟨ok204,trivial⟩ [] trivial
abbrev sh254:Shape:=⟨[(0,.row [dI,dI,dI,dS])],[]⟩
abbrev out254:Shape:=⟨[(0,.row [dI,dI,dI,dS,dB,dB])],[]⟩
noncomputable def b254:Code:=Tryz.f254.body.getD .skip
noncomputable def cx254:Cx:=⟨Tryz.prog,[e250],[],17,[],[]⟩
def F254:Int × Int × Int × ByteArray × Unit → Option (Int × Int × Int × ByteArray × Bool × Bool × Unit):=func cx254 Tryz.f254 b254 sh254 out254
def e254:FE:=⟨254,sh254,out254,F254⟩
theorem ok254:FEOK Tryz.prog e254:=fk cx254 ⟨ok250,trivial⟩ [] trivial
abbrev sh100v1:Shape:=⟨[(0,.one (.own 100000))],[(100000,.lst 207 r8 false)]⟩
abbrev out100v1:Shape:=⟨[(0,.one (.own 200000))],[(100000,.lst 207 r8 false),(200000,.lst 185 r9 false)]⟩
noncomputable def b100v1:Code:=Tryz.f100.body.getD .skip
abbrev sh100v1_0:Shape:=⟨[(3,.one (.own 200000)),(7,.one (.own 100000)),(8,oI),(9,oI)],[(100000,.lst 207 r8 false),(200000,.lst 185 r9 false)]⟩
abbrev os100v1_0:List (XE × Shape):=[(.ex 0,⟨[(3,.one (.own 200000))],[(100000,.lst 207 r8 false),(200000,.lst 185 r9 false)]⟩)]
noncomputable def cx100v1_0:Cx:=⟨Tryz.prog,[],(List.range 33),33,[],[]⟩
def B100v1_0:Rnd (Int × Int × List R8 × List R9 × Unit) (List R8 × List R9 × Unit):=round cx100v1_0 (sub [1,1,0,1,0,0] b100v1) sh100v1_0 os100v1_0
def ce100v1_0:CE:=⟨sh100v1_0,os100v1_0,loop B100v1_0⟩
theorem okc100v1_0:CEOK Tryz.prog 33 (.at (.loop (sub [1,1,0,1,0,0] b100v1))) ce100v1_0:=ck cx100v1_0 trivial [] trivial
noncomputable def cx100v1:Cx:=⟨Tryz.prog,[],(List.range 33),33,[(6,ce100v1_0)],[]⟩
def F100v1:List R8 × Unit → Option (List R8 × List R9 × Unit):=func cx100v1 Tryz.f100 b100v1 sh100v1 out100v1
def e100v1:FE:=⟨100,sh100v1,out100v1,F100v1⟩
theorem ok100v1:FEOK Tryz.prog e100v1:=fk cx100v1 trivial [((.at (.loop (sub [1,1,0,1,0,0] b100v1))),ce100v1_0)] ⟨okc100v1_0,trivial⟩
abbrev sh214:Shape:=⟨[(0,.one (.nilS)),(1,oI)],[]⟩
abbrev out214:Shape:=⟨[(0,.one (.own 200000))],[(200000,.lst 207 r8 false)]⟩
noncomputable def b214:Code:=Tryz.f214.body.getD .skip
noncomputable def cx214:Cx:=⟨Tryz.prog,[],[22,100020,100025],27,[],[]⟩
def F214:Int × Unit → Option (List R8 × Unit):=func cx214 Tryz.f214 b214 sh214 out214
def e214:FE:=⟨214,sh214,out214,F214⟩
theorem ok214:FEOK Tryz.prog e214:=fk cx214 trivial [] trivial
abbrev sh160:Shape:=⟨[(0,.one (.d (.list (.list r8))))],[]⟩
abbrev out160:Shape:=⟨[(0,.one (.own 200000))],[(200000,.lst 207 r8 false)]⟩
noncomputable def b160:Code:=Tryz.f160.body.getD .skip
abbrev sh160_0:Shape:=⟨[(0,.one (.d (.list (.list r8)))),(3,oI),(9,.one (.d (.list (.list r8)))),(10,oI),(11,oI)],[]⟩
abbrev os160_0:List (XE × Shape):=[(.ex 0,⟨[(0,.one (.d (.list (.list r8)))),(3,oI)],[]⟩)]
noncomputable def cx160_0:Cx:=⟨Tryz.prog,[e214],(List.range 36),36,[],[]⟩
def B160_0:Rnd (List (List R8) × Int × List (List R8) × Int × Int × Unit) (List (List R8) × Int × Unit):=round cx160_0 (sub [1,1,0,1,0,0] b160) sh160_0 os160_0
def ce160_0:CE:=⟨sh160_0,os160_0,loop B160_0⟩
theorem okc160_0:CEOK Tryz.prog 36 (.at (.loop (sub [1,1,0,1,0,0] b160))) ce160_0:=ck cx160_0 ⟨ok214,trivial⟩ [] trivial
abbrev sh160_1:Shape:=⟨[(6,.one (.own 200000)),(25,.one (.d (.list (.list r8)))),(26,oI),(27,oI)],[(200000,.lst 207 r8 false)]⟩
abbrev os160_1:List (XE × Shape):=[(.ex 2,⟨[(6,.one (.own 200000))],[(200000,.lst 207 r8 false)]⟩)]
noncomputable def cx160_1:Cx:=⟨Tryz.prog,[e214],(List.range 36),36,[(6,ce160_0)],[]⟩
def B160_1:Rnd (List (List R8) × Int × Int × List R8 × Unit) (List R8 × Unit):=round cx160_1 (sub [1,1,1,1,0,1,0,0] b160) sh160_1 os160_1
def ce160_1:CE:=⟨sh160_1,os160_1,loop B160_1⟩
theorem okc160_1:CEOK Tryz.prog 36 (.at (.loop (sub [1,1,1,1,0,1,0,0] b160))) ce160_1:=ck cx160_1 ⟨ok214,trivial⟩ [] trivial
noncomputable def cx160:Cx:=⟨Tryz.prog,[e214],(List.range 36),36,[(6,ce160_0),(22,ce160_1)],[]⟩
def F160:List (List R8) × Unit → Option (List R8 × Unit):=func cx160 Tryz.f160 b160 sh160 out160
def e160:FE:=⟨160,sh160,out160,F160⟩
theorem ok160:FEOK Tryz.prog e160:=fk cx160 ⟨ok214,trivial⟩ [((.at (.loop (sub [1,1,0,1,0,0] b160))),ce160_0),((.at (.loop (sub [1,1,1,1,0,1,0,0] b160))),ce160_1)] ⟨okc160_0,okc160_1,trivial⟩
abbrev sh101:Shape:=⟨[(0,.row [dI,dI,dI,dS,dB,dB,dI,dI,dI,dS,dB,dB]),(1,.one (.ptr 100000 0))],[(100000,.box 47 [dI,dI,dI,dS])]⟩
abbrev out101:Shape:=⟨[(0,oB)],[(100000,.box 47 [dI,dI,dI,dS])]⟩
noncomputable def b101:Code:=Tryz.f101.body.getD .skip
noncomputable def cx101:Cx:=⟨Tryz.prog,[e102],[],18,[],[]⟩
def F101:Int × Int × Int × ByteArray × Bool × Bool × Int × Int × Int × ByteArray × Bool × Bool × Int × Int × Int × ByteArray × Unit → Option (Bool × Int × Int × Int × ByteArray × Unit):=func cx101 Tryz.f101 b101 sh101 out101
def e101:FE:=⟨101,sh101,out101,F101⟩
theorem ok101:FEOK Tryz.prog e101:=fk cx101 ⟨ok102,trivial⟩ [] trivial
abbrev sh162v1:Shape:=⟨[(0,.one (.own 100000)),(1,.one (.clo 101 [some (100001,0)]))],[(100000,.lst 185 r9 false),(100001,.box 47 [dI,dI,dI,dS])]⟩
abbrev out162v1:Shape:=⟨[(0,oI)],[(100000,.lst 185 r9 false),(100001,.box 47 [dI,dI,dI,dS])]⟩
noncomputable def b162v1:Code:=Tryz.f162.body.getD .skip
abbrev sh162v1_0:Shape:=⟨[(0,.one (.own 100000)),(1,.one (.clo 101 [some (100001,0)])),(7,oI),(8,oI)],[(100000,.lst 185 r9 false),(100001,.box 47 [dI,dI,dI,dS])]⟩
abbrev os162v1_0:List (XE × Shape):=[(.ret,⟨[(4,oI)],[(100000,.lst 185 r9 false),(100001,.box 47 [dI,dI,dI,dS])]⟩),(.ex 0,⟨[],[(100000,.lst 185 r9 false),(100001,.box 47 [dI,dI,dI,dS])]⟩)]
noncomputable def cx162v1_0:Cx:=⟨Tryz.prog,[e101],[],19,[],[]⟩
def B162v1_0:Rnd (Int × Int × List R9 × Int × Int × Int × ByteArray × Unit) ((Int × List R9 × Int × Int × Int × ByteArray × Unit) ⊕ (List R9 × Int × Int × Int × ByteArray × Unit)):=round cx162v1_0 (sub [1,0,1,0,0] b162v1) sh162v1_0 os162v1_0
def ce162v1_0:CE:=⟨sh162v1_0,os162v1_0,loop B162v1_0⟩
theorem okc162v1_0:CEOK Tryz.prog 19 (.at (.loop (sub [1,0,1,0,0] b162v1))) ce162v1_0:=ck cx162v1_0 ⟨ok101,trivial⟩ [] trivial
noncomputable def cx162v1:Cx:=⟨Tryz.prog,[e101],[],19,[(4,ce162v1_0)],[]⟩
def F162v1:List R9 × Int × Int × Int × ByteArray × Unit → Option (Int × List R9 × Int × Int × Int × ByteArray × Unit):=func cx162v1 Tryz.f162 b162v1 sh162v1 out162v1
def e162v1:FE:=⟨162,sh162v1,out162v1,F162v1⟩
theorem ok162v1:FEOK Tryz.prog e162v1:=fk cx162v1 ⟨ok101,trivial⟩ [((.at (.loop (sub [1,0,1,0,0] b162v1))),ce162v1_0)] ⟨okc162v1_0,trivial⟩
abbrev sh99:Shape:=⟨[(0,.one (.own 100000)),(1,.one (.clo 101 [some (100001,0)]))],[(100000,.lst 185 r9 false),(100001,.box 47 [dI,dI,dI,dS])]⟩
abbrev out99:Shape:=⟨[(0,oB)],[(100000,.lst 185 r9 false),(100001,.box 47 [dI,dI,dI,dS])]⟩
noncomputable def b99:Code:=Tryz.f99.body.getD .skip
noncomputable def cx99:Cx:=⟨Tryz.prog,[e162v1],[],9,[],[]⟩
def F99:List R9 × Int × Int × Int × ByteArray × Unit → Option (Bool × List R9 × Int × Int × Int × ByteArray × Unit):=func cx99 Tryz.f99 b99 sh99 out99
def e99:FE:=⟨99,sh99,out99,F99⟩
theorem ok99:FEOK Tryz.prog e99:=fk cx99 ⟨ok162v1,trivial⟩ [] trivial
abbrev sh63:Shape:=⟨[(0,.one (.d (.list r8))),(1,.row [dI,dI,dI,dS])],[]⟩
abbrev out63:Shape:=⟨[(0,oB)],[]⟩
noncomputable def b63:Code:=Tryz.f63.body.getD .skip
noncomputable def cx63:Cx:=⟨Tryz.prog,[e99,e100],[],9,[],[]⟩
def F63:List R8 × Int × Int × Int × ByteArray × Unit → Option (Bool × Unit):=func cx63 Tryz.f63 b63 sh63 out63
def e63:FE:=⟨63,sh63,out63,F63⟩
theorem ok63:FEOK Tryz.prog e63:=fk cx63 ⟨ok99,ok100,trivial⟩ [] trivial
abbrev sh66:Shape:=⟨[(0,oS),(1,oS)],[]⟩
abbrev out66:Shape:=⟨[(0,oI)],[]⟩
noncomputable def b66:Code:=Tryz.f66.body.getD .skip
noncomputable def cx66:Cx:=⟨Tryz.prog,[e113],[],8,[],[]⟩
def F66:ByteArray × ByteArray × Unit → Option (Int × Unit):=func cx66 Tryz.f66 b66 sh66 out66
def e66:FE:=⟨66,sh66,out66,F66⟩
theorem ok66:FEOK Tryz.prog e66:=fk cx66 ⟨ok113,trivial⟩ [] trivial
abbrev sh36:Shape:=⟨[(0,oS),(1,oS)],[]⟩
abbrev out36:Shape:=⟨[(0,oI)],[]⟩
noncomputable def b36:Code:=Tryz.f36.body.getD .skip
noncomputable def cx36:Cx:=⟨Tryz.prog,[e66],[],8,[],[]⟩
def F36:ByteArray × ByteArray × Unit → Option (Int × Unit):=func cx36 Tryz.f36 b36 sh36 out36
def e36:FE:=⟨36,sh36,out36,F36⟩
theorem ok36:FEOK Tryz.prog e36:=fk cx36 ⟨ok66,trivial⟩ [] trivial
abbrev sh35:Shape:=⟨[(0,.row [dS,dI,dI,dI,dS,dS,dI,dI,dI,dS]),(1,.row [dS,dI,dI,dI,dS,dS,dI,dI,dI,dS])],[]⟩
abbrev out35:Shape:=⟨[(0,oI)],[]⟩
noncomputable def b35:Code:=Tryz.f35.body.getD .skip
noncomputable def cx35:Cx:=⟨Tryz.prog,[e36],[],10,[],[]⟩
def F35:ByteArray × Int × Int × Int × ByteArray × ByteArray × Int × Int × Int × ByteArray × ByteArray × Int × Int × Int × ByteArray × ByteArray × Int × Int × Int × ByteArray × Unit → Option (Int × Unit):=func cx35 Tryz.f35 b35 sh35 out35
def e35:FE:=⟨35,sh35,out35,F35⟩
theorem ok35:FEOK Tryz.prog e35:=fk cx35 ⟨ok36,trivial⟩ [] trivial
abbrev sh37:Shape:=⟨[(0,.one (.own 100000))],[(100000,.lst 64 r6 false)]⟩
abbrev out37:Shape:=⟨[(0,.one (.d (.list r6)))],[(100000,.lst 64 r6 false)]⟩
noncomputable def b37:Code:=Tryz.f37.body.getD .skip
noncomputable def cx37:Cx:=⟨Tryz.prog,[],[],8,[],[]⟩
def Fg37:List R6 × Unit → Option (List R6 × List R6 × Unit):=func cx37 Tryz.f37 b37 sh37 out37
theorem okg37:FEOK Tryz.prog ⟨37,sh37,out37,Fg37⟩:=fk cx37 trivial [] trivial
def F37:List R6 × Unit → Option (List R6 × List R6 × Unit):=fun (x0,_) => bif Nat.ble (List.length x0) 1256584717458 then some (x0,x0,()) else none
def e37:FE:=⟨37,sh37,out37,F37⟩
theorem Fg37_eq (x0:List R6):Fg37 (x0,()) = bif List.isEmpty x0 then both (some ([],x0,())) (bif decide (0 + List.length x0 ≤ 1256584717458) then some ([] ++ x0,x0,()) else none) else (bif decide (0 + List.length x0 ≤ 1256584717458) then some ([] ++ x0,x0,()) else none):=by kernel_rfl
theorem ok37:FEOK Tryz.prog e37:=by
 intro p r hr
 obtain ⟨x0,⟨⟩⟩:=p
 exact okg37 (x0,()) r (clone_ok (l:=x0) (Fg37_eq x0) hr (fun h => by cases x0 with | nil => rfl | cons _ _ => cases h) rfl)
abbrev sh38:Shape:=⟨[(0,.one (.own 100000))],[(100000,.lst 49 r10 false)]⟩
abbrev out38:Shape:=⟨[(0,.one (.d (.list r10)))],[(100000,.lst 49 r10 false)]⟩
noncomputable def b38:Code:=Tryz.f38.body.getD .skip
noncomputable def cx38:Cx:=⟨Tryz.prog,[],[],8,[],[]⟩
def Fg38:List R10 × Unit → Option (List R10 × List R10 × Unit):=func cx38 Tryz.f38 b38 sh38 out38
theorem okg38:FEOK Tryz.prog ⟨38,sh38,out38,Fg38⟩:=fk cx38 trivial [] trivial
def F38:List R10 × Unit → Option (List R10 × List R10 × Unit):=fun (x0,_) => bif Nat.ble (List.length x0) 1172812402961 then some (x0,x0,()) else none
def e38:FE:=⟨38,sh38,out38,F38⟩
theorem Fg38_eq (x0:List R10):Fg38 (x0,()) = bif List.isEmpty x0 then both (some ([],x0,())) (bif decide (0 + List.length x0 ≤ 1172812402961) then some ([] ++ x0,x0,()) else none) else (bif decide (0 + List.length x0 ≤ 1172812402961) then some ([] ++ x0,x0,()) else none):=by kernel_rfl
theorem ok38:FEOK Tryz.prog e38:=by
 intro p r hr
 obtain ⟨x0,⟨⟩⟩:=p
 exact okg38 (x0,()) r (clone_ok (l:=x0) (Fg38_eq x0) hr (fun h => by cases x0 with | nil => rfl | cons _ _ => cases h) rfl)
abbrev sh13:Shape:=⟨[(0,oI)],[]⟩
abbrev out13:Shape:=⟨[(0,oS)],[]⟩
noncomputable def b13:Code:=Tryz.f13.body.getD .skip
noncomputable def cx13:Cx:=⟨Tryz.prog,[e18],[],6,[],[]⟩
def F13:Int × Unit → Option (ByteArray × Unit):=func cx13 Tryz.f13 b13 sh13 out13
def e13:FE:=⟨13,sh13,out13,F13⟩
abbrev sh114:Shape:=⟨[(0,.row [.d (.list r2),.d (.list r3)])],[]⟩
abbrev out114:Shape:=⟨[(0,.one (.d (.list .str)))],[]⟩
noncomputable def b114:Code:=Tryz.f114.body.getD .skip
abbrev sh114_0:Shape:=⟨[(1,.one (.ptr 200000 0)),(3,.one (.own 200001)),(4,oI)],[(200000,.box 27 [.d (.list r2),.d (.list r3)]),(200001,.lst 9 .str true)]⟩
abbrev os114_0:List (XE × Shape):=[(.ex 0,⟨[(3,.one (.own 200000))],[(200000,.lst 9 .str true)]⟩)]
noncomputable def cx114_0:Cx:=⟨Tryz.prog,[],[],22,[],[]⟩
def B114_0:Rnd (Int × List R2 × List R3 × List ByteArray × Unit) (List ByteArray × Unit):=round cx114_0 (sub [1,1,0,1,0,0] b114) sh114_0 os114_0
def ce114_0:CE:=⟨sh114_0,os114_0,loop B114_0⟩
noncomputable def cx114:Cx:=⟨Tryz.prog,[],[],22,[(6,ce114_0)],[]⟩
def F114:List R2 × List R3 × Unit → Option (List ByteArray × Unit):=func cx114 Tryz.f114 b114 sh114 out114
def e114:FE:=⟨114,sh114,out114,F114⟩
abbrev sh115:Shape:=⟨[(0,oS),(1,oS)],[]⟩
abbrev out115:Shape:=⟨[(0,oB)],[]⟩
noncomputable def b115:Code:=Tryz.f115.body.getD .skip
noncomputable def cx115:Cx:=⟨Tryz.prog,[],[],25,[],[]⟩
def F115:ByteArray × ByteArray × Unit → Option (Bool × Unit):=func cx115 Tryz.f115 b115 sh115 out115
def e115:FE:=⟨115,sh115,out115,F115⟩
abbrev sh41:Shape:=⟨[(0,oS)],[]⟩
abbrev out41:Shape:=⟨[(0,oI),(1,oB)],[]⟩
noncomputable def b41:Code:=Tryz.f41.body.getD .skip
abbrev sh41_0:Shape:=⟨[(0,oS),(4,oI),(5,oI)],[]⟩
abbrev os41_0:List (XE × Shape):=[(.ret,⟨[(2,oI),(3,oB)],[]⟩),(.ex 0,⟨[(4,oI)],[]⟩)]
noncomputable def cx41_0:Cx:=⟨Tryz.prog,[],[],49,[],[]⟩
def B41_0:Rnd (ByteArray × Int × Int × Unit) ((Int × Bool × Unit) ⊕ (Int × Unit)):=round cx41_0 (sub [1,1,1,0,1,0,0] b41) sh41_0 os41_0
def ce41_0:CE:=⟨sh41_0,os41_0,loop B41_0⟩
noncomputable def cx41:Cx:=⟨Tryz.prog,[],[],49,[(10,ce41_0)],[]⟩
def F41:ByteArray × Unit → Option (Int × Bool × Unit):=func cx41 Tryz.f41 b41 sh41 out41
def e41:FE:=⟨41,sh41,out41,F41⟩
abbrev sh169:Shape:=⟨[(0,oS)],[]⟩
abbrev out169:Shape:=⟨[(0,.row [dI,dI,dI,dS]),(1,oB)],[]⟩
noncomputable def b169:Code:=Tryz.f169.body.getD .skip
abbrev sh169_0:Shape:=⟨[(0,oS),(2,.one (.ptr 200000 0)),(4,.one (.ptr 200001 0)),(5,oI),(6,oI),(7,oI),(20,oS),(21,oI),(22,.one (.d (.int .u8))),(23,oI),(24,.one (.d (.int .u8))),(25,oB)],[(200000,.box 47 [dI,dI,dI,dS]),(200001,.box 278 [dI,dI,dI])]⟩
abbrev os169_0:List (XE × Shape):=[(.ex 2,⟨[(0,oS),(2,.one (.ptr 200000 0)),(4,.one (.ptr 200001 0)),(5,oI),(6,oI),(7,oI),(20,oS),(21,oI),(22,.one (.d (.int .u8))),(23,oI),(24,.one (.d (.int .u8))),(25,oB)],[(200000,.box 47 [dI,dI,dI,dS]),(200001,.box 278 [dI,dI,dI])]⟩)]
noncomputable def cx169_0:Cx:=⟨Tryz.prog,[e41,e86,e141],[],90,[],[]⟩
def B169_0:Rnd (ByteArray × Int × Int × Int × ByteArray × Int × Int × Int × Int × Bool × Int × Int × Int × ByteArray × Int × Int × Int × Unit) (ByteArray × Int × Int × Int × ByteArray × Int × Int × Int × Int × Bool × Int × Int × Int × ByteArray × Int × Int × Int × Unit):=round cx169_0 (sub [1,1,1,0,1,0,0,1,0,0,1,1,1,0,0,0] b169) sh169_0 os169_0
def ce169_0:CE:=⟨sh169_0,os169_0,loop B169_0⟩
abbrev sh169_1:Shape:=⟨[(0,oS),(2,.one (.ptr 200000 0)),(4,.one (.ptr 200001 0)),(5,oI),(6,oI)],[(200000,.box 47 [dI,dI,dI,dS]),(200001,.box 278 [dI,dI,dI])]⟩
abbrev os169_1:List (XE × Shape):=[(.ret,⟨[(2,.one (.ptr 200000 0)),(3,oB)],[(200000,.box 47 [dI,dI,dI,dS])]⟩),(.ex 0,⟨[(0,oS),(2,.one (.ptr 200000 0)),(4,.one (.ptr 200001 0)),(5,oI)],[(200000,.box 47 [dI,dI,dI,dS]),(200001,.box 278 [dI,dI,dI])]⟩)]
noncomputable def cx169_1:Cx:=⟨Tryz.prog,[e41,e86,e141],[],90,[(20,ce169_0)],[]⟩
def B169_1:Rnd (ByteArray × Int × Int × Int × Int × Int × ByteArray × Int × Int × Int × Unit) ((Bool × Int × Int × Int × ByteArray × Unit) ⊕ (ByteArray × Int × Int × Int × Int × ByteArray × Int × Int × Int × Unit)):=round cx169_1 (sub [1,1,1,0,1,0,0] b169) sh169_1 os169_1
def ce169_1:CE:=⟨sh169_1,os169_1,loop B169_1⟩
noncomputable def cx169:Cx:=⟨Tryz.prog,[e41,e86,e141],[],90,[(20,ce169_0),(8,ce169_1)],[]⟩
def F169:ByteArray × Unit → Option (Int × Int × Int × ByteArray × Bool × Unit):=func cx169 Tryz.f169 b169 sh169 out169
def e169:FE:=⟨169,sh169,out169,F169⟩
abbrev sh170:Shape:=⟨[(0,.row [.d (.list r2),.d (.list r3)]),(1,oS),(2,oS)],[]⟩
abbrev out170:Shape:=⟨[(0,.row [dI,dI,dI,dS]),(1,oB)],[]⟩
noncomputable def b170:Code:=Tryz.f170.body.getD .skip
abbrev sh170_0:Shape:=⟨[(1,oS),(2,oS),(3,.one (.ptr 200000 0)),(6,.one (.ptr 200001 0)),(8,oI),(9,.one (.ptr 200002 0)),(10,oI)],[(200000,.box 27 [.d (.list r2),.d (.list r3)]),(200001,.box 47 [dI,dI,dI,dS]),(200002,.box 47 [dI,dI,dI,dS])]⟩
abbrev os170_0:List (XE × Shape):=[(.ex 0,⟨[(6,.one (.ptr 200000 0)),(8,oI),(9,.one (.ptr 200001 0))],[(200000,.box 47 [dI,dI,dI,dS]),(200001,.box 47 [dI,dI,dI,dS])]⟩)]
noncomputable def cx170_0:Cx:=⟨Tryz.prog,[e57],[],73,[],[]⟩
def B170_0:Rnd (ByteArray × ByteArray × Int × Int × List R2 × List R3 × Int × Int × Int × ByteArray × Int × Int × Int × ByteArray × Unit) (Int × Int × Int × Int × ByteArray × Int × Int × Int × ByteArray × Unit):=round cx170_0 (sub [1,1,1,0,1,0,0] b170) sh170_0 os170_0
def ce170_0:CE:=⟨sh170_0,os170_0,loop B170_0⟩
noncomputable def cx170:Cx:=⟨Tryz.prog,[e57],[],73,[(8,ce170_0)],[]⟩
def F170:List R2 × List R3 × ByteArray × ByteArray × Unit → Option (Int × Int × Int × ByteArray × Bool × Unit):=func cx170 Tryz.f170 b170 sh170 out170
def e170:FE:=⟨170,sh170,out170,F170⟩
abbrev sh40:Shape:=⟨[(0,oS)],[]⟩
abbrev out40:Shape:=⟨[(0,.one (.d (.list .str)))],[]⟩
noncomputable def b40:Code:=Tryz.f40.body.getD .skip
abbrev sh40_0:Shape:=⟨[(0,oS),(3,.one (.own 200000)),(4,oI),(5,oI)],[(200000,.lst 9 .str true)]⟩
abbrev os40_0:List (XE × Shape):=[(.ex 0,⟨[(3,.one (.own 200000))],[(200000,.lst 9 .str true)]⟩)]
noncomputable def cx40_0:Cx:=⟨Tryz.prog,[],[],32,[],[]⟩
def B40_0:Rnd (ByteArray × Int × Int × List ByteArray × Unit) (List ByteArray × Unit):=round cx40_0 (sub [1,1,1,0,1,0,0] b40) sh40_0 os40_0
def ce40_0:CE:=⟨sh40_0,os40_0,loop B40_0⟩
noncomputable def cx40:Cx:=⟨Tryz.prog,[],[],32,[(8,ce40_0)],[]⟩
def F40:ByteArray × Unit → Option (List ByteArray × Unit):=func cx40 Tryz.f40 b40 sh40 out40
def e40:FE:=⟨40,sh40,out40,F40⟩
abbrev sh19:Shape:=⟨[(0,oS)],[]⟩
abbrev out19:Shape:=⟨[(0,oS),(1,oI)],[]⟩
noncomputable def b19:Code:=Tryz.f19.body.getD .skip
noncomputable def cx19:Cx:=⟨Tryz.prog,[e40,e41],[],55,[],[]⟩
def F19:ByteArray × Unit → Option (ByteArray × Int × Unit):=func cx19 Tryz.f19 b19 sh19 out19
def e19:FE:=⟨19,sh19,out19,F19⟩
abbrev sh171:Shape:=⟨[(0,oS),(1,.row [dI,dI,dI,dS])],[]⟩
abbrev out171:Shape:=⟨[(0,oB)],[]⟩
noncomputable def b171:Code:=Tryz.f171.body.getD .skip
noncomputable def cx171:Cx:=⟨Tryz.prog,[e19],[],25,[],[]⟩
def F171:ByteArray × Int × Int × Int × ByteArray × Unit → Option (Bool × Unit):=func cx171 Tryz.f171 b171 sh171 out171
def e171:FE:=⟨171,sh171,out171,F171⟩
abbrev sh216:Shape:=⟨[(0,.row [.d (.list r2),.d (.list r3)]),(1,oS)],[]⟩
abbrev out216:Shape:=⟨[(0,oI)],[]⟩
noncomputable def b216:Code:=Tryz.f216.body.getD .skip
abbrev sh216_0:Shape:=⟨[(1,oS),(2,.one (.ptr 200000 0)),(5,oI)],[(200000,.box 27 [.d (.list r2),.d (.list r3)])]⟩
abbrev os216_0:List (XE × Shape):=[(.ret,⟨[(4,oI)],[]⟩),(.ex 0,⟨[],[]⟩)]
noncomputable def cx216_0:Cx:=⟨Tryz.prog,[],[],22,[],[]⟩
def B216_0:Rnd (ByteArray × Int × List R2 × List R3 × Unit) ((Int × Unit) ⊕ (Unit)):=round cx216_0 (sub [1,0,1,0,0] b216) sh216_0 os216_0
def ce216_0:CE:=⟨sh216_0,os216_0,loop B216_0⟩
noncomputable def cx216:Cx:=⟨Tryz.prog,[],[],22,[(4,ce216_0)],[]⟩
def F216:List R2 × List R3 × ByteArray × Unit → Option (Int × Unit):=func cx216 Tryz.f216 b216 sh216 out216
def e216:FE:=⟨216,sh216,out216,F216⟩
abbrev sh172:Shape:=⟨[(0,.row [.d (.list r2),.d (.list r3)]),(1,oS),(2,.row [dI,dI,dI,dS])],[]⟩
abbrev out172:Shape:=⟨[(0,.row [dI,dI,dI,dS,.d (.list r0),dS,dS]),(1,oB)],[]⟩
noncomputable def b172:Code:=Tryz.f172.body.getD .skip
abbrev sh172_0:Shape:=⟨[(5,.one (.ptr 200000 0)),(6,.one (.ptr 200001 0)),(9,.one (.d (.list r1))),(10,oI)],[(200000,.box 47 [dI,dI,dI,dS]),(200001,.box 59 [dI,dI,dI,dS,.nilS,dS,dS])]⟩
abbrev os172_0:List (XE × Shape):=[(.ret,⟨[(6,.one (.ptr 200000 0)),(7,oB)],[(200000,.box 59 [dI,dI,dI,dS,.d (.list r0),dS,dS])]⟩),(.ex 0,⟨[(6,.one (.ptr 200000 0))],[(200000,.box 59 [dI,dI,dI,dS,.nilS,dS,dS])]⟩)]
noncomputable def cx172_0:Cx:=⟨Tryz.prog,[e216],[],41,[],[]⟩
def B172_0:Rnd (List R1 × Int × Int × Int × Int × ByteArray × Int × Int × Int × ByteArray × ByteArray × ByteArray × Unit) ((Bool × Int × Int × Int × ByteArray × List R0 × ByteArray × ByteArray × Unit) ⊕ (Int × Int × Int × ByteArray × ByteArray × ByteArray × Unit)):=round cx172_0 (sub [1,1,1,1,0,1,0,0] b172) sh172_0 os172_0
def ce172_0:CE:=⟨sh172_0,os172_0,loop B172_0⟩
noncomputable def cx172:Cx:=⟨Tryz.prog,[e216],[],41,[(12,ce172_0)],[]⟩
def F172:List R2 × List R3 × ByteArray × Int × Int × Int × ByteArray × Unit → Option (Int × Int × Int × ByteArray × List R0 × ByteArray × ByteArray × Bool × Unit):=func cx172 Tryz.f172 b172 sh172 out172
def e172:FE:=⟨172,sh172,out172,F172⟩
abbrev sh116:Shape:=⟨[(0,.row [.d (.list r2),.d (.list r3)]),(1,.row [dS,dS,dS,dS,dS]),(2,oS)],[]⟩
abbrev out116:Shape:=⟨[(0,.row [dI,dI,dI,dS]),(1,oB)],[]⟩
noncomputable def b116:Code:=Tryz.f116.body.getD .skip
noncomputable def cx116:Cx:=⟨Tryz.prog,[e169,e170,e171,e172],[],60,[],[]⟩
def F116:List R2 × List R3 × ByteArray × ByteArray × ByteArray × ByteArray × ByteArray × ByteArray × Unit → Option (Int × Int × Int × ByteArray × Bool × Unit):=func cx116 Tryz.f116 b116 sh116 out116
def e116:FE:=⟨116,sh116,out116,F116⟩
abbrev sh173:Shape:=⟨[(0,oI),(1,oI)],[]⟩
abbrev out173:Shape:=⟨[(0,oI)],[]⟩
noncomputable def b173:Code:=Tryz.f173.body.getD .skip
noncomputable def cx173:Cx:=⟨Tryz.prog,[],[],11,[],[]⟩
def F173:Int × Int × Unit → Option (Int × Unit):=func cx173 Tryz.f173 b173 sh173 out173
def e173:FE:=⟨173,sh173,out173,F173⟩
abbrev sh174:Shape:=⟨[(0,oS),(1,oS)],[]⟩
abbrev out174:Shape:=⟨[(0,oI)],[]⟩
noncomputable def b174:Code:=Tryz.f174.body.getD .skip
noncomputable def cx174:Cx:=⟨Tryz.prog,[e173,e192],[],37,[],[]⟩
def F174:ByteArray × ByteArray × Unit → Option (Int × Unit):=func cx174 Tryz.f174 b174 sh174 out174
def e174:FE:=⟨174,sh174,out174,F174⟩
abbrev sh117:Shape:=⟨[(0,.row [dI,dI,dI,dS]),(1,.row [dI,dI,dI,dS])],[]⟩
abbrev out117:Shape:=⟨[(0,oI)],[]⟩
noncomputable def b117:Code:=Tryz.f117.body.getD .skip
abbrev sh117_0:Shape:=⟨[(2,.one (.ptr 200000 0)),(3,.one (.ptr 200001 0)),(5,.one (.own 200002)),(6,oI)],[(200000,.box 47 [dI,dI,dI,dS]),(200001,.box 47 [dI,dI,dI,dS]),(200002,.lst 3 (.int .i64) true)]⟩
abbrev os117_0:List (XE × Shape):=[(.ret,⟨[(4,oI)],[]⟩),(.ex 0,⟨[(2,.one (.ptr 200000 0)),(3,.one (.ptr 200001 0))],[(200000,.box 47 [dI,dI,dI,dS]),(200001,.box 47 [dI,dI,dI,dS])]⟩)]
noncomputable def cx117_0:Cx:=⟨Tryz.prog,[e142,e173,e174],[],99,[],[]⟩
def B117_0:Rnd (Int × Int × Int × Int × ByteArray × Int × Int × Int × ByteArray × List Int × Unit) ((Int × Unit) ⊕ (Int × Int × Int × ByteArray × Int × Int × Int × ByteArray × Unit)):=round cx117_0 (sub [1,1,0,1,0,0] b117) sh117_0 os117_0
def ce117_0:CE:=⟨sh117_0,os117_0,loop B117_0⟩
abbrev sh117_1:Shape:=⟨[(7,.one (.d (.list .str))),(8,.one (.d (.list .str))),(9,oI)],[]⟩
abbrev os117_1:List (XE × Shape):=[(.ret,⟨[(4,oI)],[]⟩),(.ex 2,⟨[(7,.one (.d (.list .str))),(8,.one (.d (.list .str)))],[]⟩)]
noncomputable def cx117_1:Cx:=⟨Tryz.prog,[e142,e173,e174],[],99,[(6,ce117_0)],[]⟩
def B117_1:Rnd (List ByteArray × List ByteArray × Int × Unit) ((Int × Unit) ⊕ (List ByteArray × List ByteArray × Unit)):=round cx117_1 (sub [1,1,1,1,1,0,1,0,0] b117) sh117_1 os117_1
def ce117_1:CE:=⟨sh117_1,os117_1,loop B117_1⟩
noncomputable def cx117:Cx:=⟨Tryz.prog,[e142,e173,e174],[],99,[(6,ce117_0),(22,ce117_1)],[]⟩
def F117:Int × Int × Int × ByteArray × Int × Int × Int × ByteArray × Unit → Option (Int × Unit):=func cx117 Tryz.f117 b117 sh117 out117
def e117:FE:=⟨117,sh117,out117,F117⟩
abbrev sh67:Shape:=⟨[(0,.row [.d (.list r2),.d (.list r3)]),(1,.row [dS,dS,dS,dS,dS])],[]⟩
abbrev out67:Shape:=⟨[(0,oS),(1,.row [dI,dI,dI,dS]),(2,oI)],[]⟩
noncomputable def b67:Code:=Tryz.f67.body.getD .skip
abbrev sh67_0:Shape:=⟨[(2,.one (.ptr 200000 0)),(3,.one (.ptr 200001 0)),(5,.one (.ptr 200002 0)),(7,.one (.d (.list .str))),(8,oB),(9,oS),(10,oI),(11,.one (.ptr 200003 0)),(12,oI)],[(200000,.box 27 [.d (.list r2),.d (.list r3)]),(200001,.box 44 [dS,dS,dS,dS,dS]),(200002,.box 47 [dI,dI,dI,dS]),(200003,.box 47 [dI,dI,dI,dS])]⟩
abbrev os67_0:List (XE × Shape):=[(.ex 0,⟨[(5,.one (.ptr 200000 0)),(8,oB),(9,oS),(10,oI),(11,.one (.ptr 200001 0))],[(200000,.box 47 [dI,dI,dI,dS]),(200001,.box 47 [dI,dI,dI,dS])]⟩)]
noncomputable def cx67_0:Cx:=⟨Tryz.prog,[e19,e114,e115,e116,e117],[],82,[],[]⟩
def B67_0:Rnd (List ByteArray × Bool × ByteArray × Int × Int × List R2 × List R3 × ByteArray × ByteArray × ByteArray × ByteArray × ByteArray × Int × Int × Int × ByteArray × Int × Int × Int × ByteArray × Unit) (Bool × ByteArray × Int × Int × Int × Int × ByteArray × Int × Int × Int × ByteArray × Unit):=round cx67_0 (sub [1,1,1,1,0,1,0,0] b67) sh67_0 os67_0
def ce67_0:CE:=⟨sh67_0,os67_0,loop B67_0⟩
noncomputable def cx67:Cx:=⟨Tryz.prog,[e19,e114,e115,e116,e117],[],82,[(10,ce67_0)],[]⟩
def F67:List R2 × List R3 × ByteArray × ByteArray × ByteArray × ByteArray × ByteArray × Unit → Option (ByteArray × Int × Int × Int × ByteArray × Int × Unit):=func cx67 Tryz.f67 b67 sh67 out67
def e67:FE:=⟨67,sh67,out67,F67⟩
abbrev sh68:Shape:=⟨[(0,oI),(1,oS),(2,oS),(3,.row [dI,dI,dI,dS]),(4,.row [dI,dI,dI,dS])],[]⟩
abbrev out68:Shape:=⟨[(0,.row [dI,dS,dS,dI,dI,dI,dS,dI,dI,dI,dS])],[]⟩
noncomputable def b68:Code:=Tryz.f68.body.getD .skip
noncomputable def cx68:Cx:=⟨Tryz.prog,[],[],17,[],[]⟩
def F68:Int × ByteArray × ByteArray × Int × Int × Int × ByteArray × Int × Int × Int × ByteArray × Unit → Option (Int × ByteArray × ByteArray × Int × Int × Int × ByteArray × Int × Int × Int × ByteArray × Unit):=func cx68 Tryz.f68 b68 sh68 out68
def e68:FE:=⟨68,sh68,out68,F68⟩
abbrev sh220:Shape:=⟨[(0,.row [dI,dI,dI,dS,dI,dI,dI,dS,dB,dB,dB])],[]⟩
abbrev out220:Shape:=⟨[(0,oB)],[]⟩
noncomputable def b220:Code:=Tryz.f220.body.getD .skip
noncomputable def cx220:Cx:=⟨Tryz.prog,[e117],[],29,[],[]⟩
def F220:Int × Int × Int × ByteArray × Int × Int × Int × ByteArray × Bool × Bool × Bool × Unit → Option (Bool × Unit):=func cx220 Tryz.f220 b220 sh220 out220
def e220:FE:=⟨220,sh220,out220,F220⟩
abbrev sh221:Shape:=⟨[(0,.row [dI,dI,dI,dS,dI,dI,dI,dS,dB,dB,dB]),(1,.row [dI,dI,dI,dS,dI,dI,dI,dS,dB,dB,dB])],[]⟩
abbrev out221:Shape:=⟨[(0,oB)],[]⟩
noncomputable def b221:Code:=Tryz.f221.body.getD .skip
noncomputable def cx221:Cx:=⟨Tryz.prog,[e117],[],26,[],[]⟩
def F221:Int × Int × Int × ByteArray × Int × Int × Int × ByteArray × Bool × Bool × Bool × Int × Int × Int × ByteArray × Int × Int × Int × ByteArray × Bool × Bool × Bool × Unit → Option (Bool × Unit):=func cx221 Tryz.f221 b221 sh221 out221
def e221:FE:=⟨221,sh221,out221,F221⟩
abbrev sh222:Shape:=⟨[(0,.row [dI,dI,dI,dS,dI,dI,dI,dS,dB,dB,dB]),(1,.row [dI,dI,dI,dS,dI,dI,dI,dS,dB,dB,dB])],[]⟩
abbrev out222:Shape:=⟨[(0,oB)],[]⟩
noncomputable def b222:Code:=Tryz.f222.body.getD .skip
noncomputable def cx222:Cx:=⟨Tryz.prog,[e117],[],28,[],[]⟩
def F222:Int × Int × Int × ByteArray × Int × Int × Int × ByteArray × Bool × Bool × Bool × Int × Int × Int × ByteArray × Int × Int × Int × ByteArray × Bool × Bool × Bool × Unit → Option (Bool × Unit):=func cx222 Tryz.f222 b222 sh222 out222
def e222:FE:=⟨222,sh222,out222,F222⟩
abbrev sh223:Shape:=⟨[(0,.row [dI,dI,dI,dS,dI,dI,dI,dS,dB,dB,dB]),(1,.row [dI,dI,dI,dS,dI,dI,dI,dS,dB,dB,dB])],[]⟩
abbrev out223:Shape:=⟨[(0,oB)],[]⟩
noncomputable def b223:Code:=Tryz.f223.body.getD .skip
noncomputable def cx223:Cx:=⟨Tryz.prog,[e117],[],39,[],[]⟩
def F223:Int × Int × Int × ByteArray × Int × Int × Int × ByteArray × Bool × Bool × Bool × Int × Int × Int × ByteArray × Int × Int × Int × ByteArray × Bool × Bool × Bool × Unit → Option (Bool × Unit):=func cx223 Tryz.f223 b223 sh223 out223
def e223:FE:=⟨223,sh223,out223,F223⟩
abbrev sh179:Shape:=⟨[(0,.one (.d (.list r8)))],[]⟩
abbrev out179:Shape:=⟨[(0,.one (.d (.list r8)))],[]⟩
noncomputable def b179:Code:=Tryz.f179.body.getD .skip
abbrev sh179_0:Shape:=⟨[(0,.one (.d (.list r8))),(3,.one (.own 200000)),(4,.one (.nilS)),(5,oI),(6,.one (.ptr 200001 0)),(7,oI)],[(200000,.lst 207 r8 true),(200001,.box 207 [dI,dI,dI,dS,dI,dI,dI,dS,dB,dB,dB])]⟩
abbrev os179_0:List (XE × Shape):=[(.ex 2,⟨[(0,.one (.d (.list r8))),(3,.one (.own 200000)),(4,.one (.nilS)),(5,oI),(6,.one (.ptr 200001 0)),(7,oI)],[(200000,.lst 207 r8 true),(200001,.box 207 [dI,dI,dI,dS,dI,dI,dI,dS,dB,dB,dB])]⟩)]
noncomputable def cx179_0:Cx:=⟨Tryz.prog,[e220,e221,e222,e223],[81,82],120,[],[]⟩
def B179_0:Rnd (List R8 × Int × Int × List R8 × Int × Int × Int × ByteArray × Int × Int × Int × ByteArray × Bool × Bool × Bool × Unit) (List R8 × Int × Int × List R8 × Int × Int × Int × ByteArray × Int × Int × Int × ByteArray × Bool × Bool × Bool × Unit):=round cx179_0 (sub [1,1,0,1,0,0,1,0,0,1,1,1,1,0,0,0] b179) sh179_0 os179_0
def ce179_0:CE:=⟨sh179_0,os179_0,loop B179_0⟩
abbrev sh179_1:Shape:=⟨[(0,.one (.d (.list r8))),(3,.one (.own 200000)),(4,.one (.nilS)),(5,oI)],[(200000,.lst 207 r8 true)]⟩
abbrev os179_1:List (XE × Shape):=[(.ex 0,⟨[(3,.one (.own 200000)),(4,.one (.nilS))],[(200000,.lst 207 r8 true)]⟩)]
noncomputable def cx179_1:Cx:=⟨Tryz.prog,[e220,e221,e222,e223],[81,82],120,[(20,ce179_0)],[]⟩
def B179_1:Rnd (List R8 × Int × List R8 × Unit) (List R8 × Unit):=round cx179_1 (sub [1,1,0,1,0,0] b179) sh179_1 os179_1
def ce179_1:CE:=⟨sh179_1,os179_1,loop B179_1⟩
abbrev sh179_2:Shape:=⟨[(3,.one (.own 200000)),(4,.one (.own 200001)),(8,oI)],[(200000,.lst 207 r8 true),(200001,.lst 207 r8 false)]⟩
abbrev os179_2:List (XE × Shape):=[(.ex 4,⟨[(4,.one (.own 200000))],[(200000,.lst 207 r8 false)]⟩)]
noncomputable def cx179_2:Cx:=⟨Tryz.prog,[e220,e221,e222,e223],[81,82],120,[(20,ce179_0),(6,ce179_1)],[]⟩
def B179_2:Rnd (Int × List R8 × List R8 × Unit) (List R8 × Unit):=round cx179_2 (sub [1,1,1,0,1,0,0] b179) sh179_2 os179_2
def ce179_2:CE:=⟨sh179_2,os179_2,loop B179_2⟩
noncomputable def cx179:Cx:=⟨Tryz.prog,[e220,e221,e222,e223],[81,82],120,[(20,ce179_0),(6,ce179_1),(28,ce179_2)],[200000]⟩
def F179:List R8 × Unit → Option (List R8 × Unit):=func cx179 Tryz.f179 b179 sh179 out179
def e179:FE:=⟨179,sh179,out179,F179⟩
abbrev sh217:Shape:=⟨[],[]⟩
abbrev out217:Shape:=⟨[(0,.row [dI,dI,dI,dS])],[]⟩
noncomputable def b217:Code:=Tryz.f217.body.getD .skip
noncomputable def cx217:Cx:=⟨Tryz.prog,[],[],2,[],[]⟩
def F217:Unit → Option (Int × Int × Int × ByteArray × Unit):=func cx217 Tryz.f217 b217 sh217 out217
def e217:FE:=⟨217,sh217,out217,F217⟩
abbrev sh175:Shape:=⟨[(0,.one (.d (.list r8)))],[]⟩
abbrev out175:Shape:=⟨[(0,.one (.d (.list r8)))],[]⟩
noncomputable def b175:Code:=Tryz.f175.body.getD .skip
abbrev sh175_0:Shape:=⟨[(0,.one (.d (.list r8))),(3,.one (.own 200000)),(4,.one (.ptr 200001 0)),(5,oI)],[(200000,.lst 207 r8 true),(200001,.box 207 [dI,dI,dI,dS,dI,dI,dI,dS,dB,dB,dB])]⟩
abbrev os175_0:List (XE × Shape):=[(.ret,⟨[(2,.one (.d (.list r8)))],[]⟩),(.ex 0,⟨[(3,.one (.own 200000)),(4,.one (.ptr 200001 0))],[(200000,.lst 207 r8 true),(200001,.box 207 [dI,dI,dI,dS,dI,dI,dI,dS,dB,dB,dB])]⟩)]
noncomputable def cx175_0:Cx:=⟨Tryz.prog,[e179,e217],[],56,[],[]⟩
def B175_0:Rnd (List R8 × Int × List R8 × Int × Int × Int × ByteArray × Int × Int × Int × ByteArray × Bool × Bool × Bool × Unit) ((List R8 × Unit) ⊕ (List R8 × Int × Int × Int × ByteArray × Int × Int × Int × ByteArray × Bool × Bool × Bool × Unit)):=round cx175_0 (sub [1,1,1,0,1,0,0] b175) sh175_0 os175_0
def ce175_0:CE:=⟨sh175_0,os175_0,loop B175_0⟩
noncomputable def cx175:Cx:=⟨Tryz.prog,[e179,e217],[],56,[(8,ce175_0)],[]⟩
def F175:List R8 × Unit → Option (List R8 × Unit):=func cx175 Tryz.f175 b175 sh175 out175
def e175:FE:=⟨175,sh175,out175,F175⟩
abbrev sh176:Shape:=⟨[(0,.one (.ptr 100000 0))],[(100000,.box 202 [dS,dI])]⟩
abbrev out176:Shape:=⟨[],[(100000,.box 202 [dS,dI])]⟩
noncomputable def b176:Code:=Tryz.f176.body.getD .skip
abbrev sh176_0:Shape:=⟨[(0,.one (.ptr 100000 0))],[(100000,.box 202 [dS,dI])]⟩
abbrev os176_0:List (XE × Shape):=[(.ex 0,⟨[],[(100000,.box 202 [dS,dI])]⟩)]
noncomputable def cx176_0:Cx:=⟨Tryz.prog,[],[],31,[],[]⟩
def B176_0:Rnd (ByteArray × Int × Unit) (ByteArray × Int × Unit):=round cx176_0 (sub [0,0] b176) sh176_0 os176_0
def ce176_0:CE:=⟨sh176_0,os176_0,loop B176_0⟩
noncomputable def cx176:Cx:=⟨Tryz.prog,[],[],31,[(0,ce176_0)],[]⟩
def F176:ByteArray × Int × Unit → Option (ByteArray × Int × Unit):=func cx176 Tryz.f176 b176 sh176 out176
def e176:FE:=⟨176,sh176,out176,F176⟩
abbrev sh177:Shape:=⟨[(0,.one (.ptr 100000 0))],[(100000,.box 202 [dS,dI])]⟩
abbrev out177:Shape:=⟨[(0,oS),(1,oI)],[(100000,.box 202 [dS,dI])]⟩
noncomputable def b177:Code:=Tryz.f177.body.getD .skip
abbrev sh177_0:Shape:=⟨[(0,.one (.ptr 100000 0)),(4,oI)],[(100000,.box 202 [dS,dI])]⟩
abbrev os177_0:List (XE × Shape):=[(.ex 0,⟨[(0,.one (.ptr 100000 0)),(4,oI)],[(100000,.box 202 [dS,dI])]⟩)]
noncomputable def cx177_0:Cx:=⟨Tryz.prog,[e176],[],65,[],[]⟩
def B177_0:Rnd (Int × ByteArray × Int × Unit) (Int × ByteArray × Int × Unit):=round cx177_0 (sub [1,1,0,0,0] b177) sh177_0 os177_0
def ce177_0:CE:=⟨sh177_0,os177_0,loop B177_0⟩
noncomputable def cx177:Cx:=⟨Tryz.prog,[e176],[],65,[(4,ce177_0)],[]⟩
def F177:ByteArray × Int × Unit → Option (ByteArray × Int × ByteArray × Int × Unit):=func cx177 Tryz.f177 b177 sh177 out177
def e177:FE:=⟨177,sh177,out177,F177⟩
abbrev sh256:Shape:=⟨[(0,.row [dI,dI,dI,dS]),(1,oI)],[]⟩
abbrev out256:Shape:=⟨[(0,.row [dI,dI,dI,dS,dI,dI,dI,dS,dB,dB,dB])],[]⟩
noncomputable def b256:Code:=Tryz.f256.body.getD .skip
abbrev sh256_0:Shape:=⟨[(1,oI),(4,.one (.ptr 200000 0)),(5,.one (.ptr 200001 0)),(6,.one (.ptr 200002 0))],[(200000,.box 207 [dI,dI,dI,dS,dI,dI,dI,dS,dB,dB,dB]),(200001,.box 207 [dI,dI,dI,dS,dI,dI,dI,dS,dB,dB,dB]),(200002,.box 278 [dI,dI,dI])]⟩
abbrev os256_0:List (XE × Shape):=[(.ex 0,⟨[(1,oI),(4,.one (.ptr 200000 0)),(5,.one (.ptr 200001 0)),(6,.one (.ptr 200002 0))],[(200000,.box 207 [dI,dI,dI,dS,dI,dI,dI,dS,dB,dB,dB]),(200001,.box 207 [dI,dI,dI,dS,dI,dI,dI,dS,dB,dB,dB]),(200002,.box 278 [dI,dI,dI])]⟩)]
noncomputable def cx256_0:Cx:=⟨Tryz.prog,[],[],57,[],[]⟩
def B256_0:Rnd (Int × Int × Int × Int × ByteArray × Int × Int × Int × ByteArray × Bool × Bool × Bool × Int × Int × Int × ByteArray × Int × Int × Int × ByteArray × Bool × Bool × Bool × Int × Int × Int × Unit) (Int × Int × Int × Int × ByteArray × Int × Int × Int × ByteArray × Bool × Bool × Bool × Int × Int × Int × ByteArray × Int × Int × Int × ByteArray × Bool × Bool × Bool × Int × Int × Int × Unit):=round cx256_0 (sub [1,1,1,0,0,0] b256) sh256_0 os256_0
def ce256_0:CE:=⟨sh256_0,os256_0,loop B256_0⟩
abbrev sh256_1:Shape:=⟨[(1,oI),(4,.one (.ptr 200000 0)),(5,.one (.ptr 200001 0)),(6,.one (.ptr 200002 0)),(7,oI)],[(200000,.box 207 [dI,dI,dI,dS,dI,dI,dI,dS,dB,dB,dB]),(200001,.box 207 [dI,dI,dI,dS,dI,dI,dI,dS,dB,dB,dB]),(200002,.box 278 [dI,dI,dI])]⟩
abbrev os256_1:List (XE × Shape):=[(.ex 2,⟨[(4,.one (.ptr 200000 0)),(5,.one (.ptr 200001 0)),(6,.one (.ptr 200002 0))],[(200000,.box 207 [dI,dI,dI,dS,dI,dI,dI,dS,dB,dB,dB]),(200001,.box 207 [dI,dI,dI,dS,dI,dI,dI,dS,dB,dB,dB]),(200002,.box 278 [dI,dI,dI])]⟩)]
noncomputable def cx256_1:Cx:=⟨Tryz.prog,[],[],57,[(6,ce256_0)],[]⟩
def B256_1:Rnd (Int × Int × Int × Int × Int × ByteArray × Int × Int × Int × ByteArray × Bool × Bool × Bool × Int × Int × Int × ByteArray × Int × Int × Int × ByteArray × Bool × Bool × Bool × Int × Int × Int × Unit) (Int × Int × Int × ByteArray × Int × Int × Int × ByteArray × Bool × Bool × Bool × Int × Int × Int × ByteArray × Int × Int × Int × ByteArray × Bool × Bool × Bool × Int × Int × Int × Unit):=round cx256_1 (sub [1,1,1,1,1,0,1,0,0] b256) sh256_1 os256_1
def ce256_1:CE:=⟨sh256_1,os256_1,loop B256_1⟩
noncomputable def cx256:Cx:=⟨Tryz.prog,[],[],57,[(6,ce256_0),(18,ce256_1)],[]⟩
def F256:Int × Int × Int × ByteArray × Int × Unit → Option (Int × Int × Int × ByteArray × Int × Int × Int × ByteArray × Bool × Bool × Bool × Unit):=func cx256 Tryz.f256 b256 sh256 out256
def e256:FE:=⟨256,sh256,out256,F256⟩
abbrev sh218:Shape:=⟨[(0,oS)],[]⟩
abbrev out218:Shape:=⟨[(0,.row [dI,dI,dI,dS,dI,dI,dI,dS,dB,dB,dB]),(1,oB)],[]⟩
noncomputable def b218:Code:=Tryz.f218.body.getD .skip
abbrev sh218_0:Shape:=⟨[(2,.one (.ptr 200000 0)),(4,oS),(5,oI)],[(200000,.box 207 [dI,dI,dI,dS,dI,dI,dI,dS,dB,dB,dB])]⟩
abbrev os218_0:List (XE × Shape):=[(.ex 0,⟨[(2,.one (.ptr 200000 0)),(4,oS),(5,oI)],[(200000,.box 207 [dI,dI,dI,dS,dI,dI,dI,dS,dB,dB,dB])]⟩)]
noncomputable def cx218_0:Cx:=⟨Tryz.prog,[e41,e256],[],87,[],[]⟩
def B218_0:Rnd (ByteArray × Int × Int × Int × Int × ByteArray × Int × Int × Int × ByteArray × Bool × Bool × Bool × Unit) (ByteArray × Int × Int × Int × Int × ByteArray × Int × Int × Int × ByteArray × Bool × Bool × Bool × Unit):=round cx218_0 (sub [1,1,1,1,0,0,0] b218) sh218_0 os218_0
def ce218_0:CE:=⟨sh218_0,os218_0,loop B218_0⟩
noncomputable def cx218:Cx:=⟨Tryz.prog,[e41,e256],[],87,[(10,ce218_0)],[]⟩
def F218:ByteArray × Unit → Option (Int × Int × Int × ByteArray × Int × Int × Int × ByteArray × Bool × Bool × Bool × Bool × Unit):=func cx218 Tryz.f218 b218 sh218 out218
def e218:FE:=⟨218,sh218,out218,F218⟩
abbrev sh219:Shape:=⟨[(0,oS),(1,.row [dI,dI,dI,dS])],[]⟩
abbrev out219:Shape:=⟨[(0,.one (.d (.list r8)))],[]⟩
noncomputable def b219:Code:=Tryz.f219.body.getD .skip
noncomputable def cx219:Cx:=⟨Tryz.prog,[e175,e217,e256],[],63,[],[]⟩
def F219:ByteArray × Int × Int × Int × ByteArray × Unit → Option (List R8 × Unit):=func cx219 Tryz.f219 b219 sh219 out219
def e219:FE:=⟨219,sh219,out219,F219⟩
abbrev sh178:Shape:=⟨[(0,oS)],[]⟩
abbrev out178:Shape:=⟨[(0,.one (.d (.list r8))),(1,oB),(2,oB)],[]⟩
noncomputable def b178:Code:=Tryz.f178.body.getD .skip
abbrev sh178_0:Shape:=⟨[(0,oS),(7,.one (.own 200000)),(8,oI)],[(200000,.lst 9 .str true)]⟩
abbrev os178_0:List (XE × Shape):=[(.ret,⟨[(2,.one (.d (.list r8))),(3,oB),(4,oB)],[]⟩),(.ex 0,⟨[],[]⟩)]
noncomputable def cx178_0:Cx:=⟨Tryz.prog,[e169,e175,e179,e218,e219],[],71,[],[]⟩
def B178_0:Rnd (ByteArray × Int × List ByteArray × Unit) ((List R8 × Bool × Bool × Unit) ⊕ (Unit)):=round cx178_0 (sub [1,1,1,1,0,1,0,0] b178) sh178_0 os178_0
def ce178_0:CE:=⟨sh178_0,os178_0,loop B178_0⟩
noncomputable def cx178:Cx:=⟨Tryz.prog,[e169,e175,e179,e218,e219],[],71,[(16,ce178_0)],[]⟩
def F178:ByteArray × Unit → Option (List R8 × Bool × Bool × Unit):=func cx178 Tryz.f178 b178 sh178 out178
def e178:FE:=⟨178,sh178,out178,F178⟩
abbrev sh119:Shape:=⟨[(0,.one (.d (.list r8))),(1,.one (.d (.list r8)))],[]⟩
abbrev out119:Shape:=⟨[(0,.one (.d (.list r8)))],[]⟩
noncomputable def b119:Code:=Tryz.f119.body.getD .skip
noncomputable def cx119:Cx:=⟨Tryz.prog,[e179],[],11,[],[]⟩
def F119:List R8 × List R8 × Unit → Option (List R8 × Unit):=func cx119 Tryz.f119 b119 sh119 out119
def e119:FE:=⟨119,sh119,out119,F119⟩
abbrev sh180:Shape:=⟨[(0,.one (.d (.list r8))),(1,.one (.d (.list r8)))],[]⟩
abbrev out180:Shape:=⟨[(0,.one (.d (.list r8)))],[]⟩
noncomputable def b180:Code:=Tryz.f180.body.getD .skip
noncomputable def cx180:Cx:=⟨Tryz.prog,[e119,e175],[],11,[],[]⟩
def F180:List R8 × List R8 × Unit → Option (List R8 × Unit):=func cx180 Tryz.f180 b180 sh180 out180
def e180:FE:=⟨180,sh180,out180,F180⟩
abbrev sh118:Shape:=⟨[(0,.one (.ptr 100000 0))],[(100000,.box 202 [dS,dI])]⟩
abbrev out118:Shape:=⟨[(0,.one (.d (.list r8))),(1,oI),(2,oB)],[(100000,.box 202 [dS,dI])]⟩
noncomputable def b118:Code:=Tryz.f118.body.getD .skip
abbrev sh118_0:Shape:=⟨[(0,.one (.ptr 100000 0)),(5,.one (.d (.list r8))),(6,oI)],[(100000,.box 202 [dS,dI])]⟩
abbrev os118_0:List (XE × Shape):=[(.ret,⟨[(2,.one (.d (.list r8))),(3,oI),(4,oB)],[(100000,.box 202 [dS,dI])]⟩)]
noncomputable def cx118_0:Cx:=⟨Tryz.prog,[e169,e175,e176,e177,e178,e179,e180],[],121,[],[]⟩
def B118_0:Rnd (List R8 × Int × ByteArray × Int × Unit) (List R8 × Int × Bool × ByteArray × Int × Unit):=round cx118_0 (sub [1,1,1,1,0,0] b118) sh118_0 os118_0
def ce118_0:CE:=⟨sh118_0,os118_0,loop B118_0⟩
noncomputable def cx118:Cx:=⟨Tryz.prog,[e169,e175,e176,e177,e178,e179,e180],[],121,[(10,ce118_0)],[]⟩
def F118:ByteArray × Int × Unit → Option (List R8 × Int × Bool × ByteArray × Int × Unit):=func cx118 Tryz.f118 b118 sh118 out118
def e118:FE:=⟨118,sh118,out118,F118⟩
abbrev sh69:Shape:=⟨[(0,oS)],[]⟩
abbrev out69:Shape:=⟨[(0,.one (.d (.list r8))),(1,oI),(2,oI)],[]⟩
noncomputable def b69:Code:=Tryz.f69.body.getD .skip
abbrev sh69_0:Shape:=⟨[(0,oS),(5,.one (.ptr 200000 0)),(6,.one (.d (.list r8)))],[(200000,.box 202 [dS,dI])]⟩
abbrev os69_0:List (XE × Shape):=[(.ret,⟨[(2,.one (.d (.list r8))),(3,oI),(4,oI)],[]⟩)]
noncomputable def cx69_0:Cx:=⟨Tryz.prog,[e118,e119],[],64,[],[]⟩
def B69_0:Rnd (ByteArray × List R8 × ByteArray × Int × Unit) (List R8 × Int × Int × Unit):=round cx69_0 (sub [1,1,1,0,0] b69) sh69_0 os69_0
def ce69_0:CE:=⟨sh69_0,os69_0,loop B69_0⟩
noncomputable def cx69:Cx:=⟨Tryz.prog,[e118,e119],[],64,[(6,ce69_0)],[]⟩
def F69:ByteArray × Unit → Option (List R8 × Int × Int × Unit):=func cx69 Tryz.f69 b69 sh69 out69
def e69:FE:=⟨69,sh69,out69,F69⟩
abbrev sh70:Shape:=⟨[(0,.one (.d (.list r8))),(1,.row [dI,dI,dI,dS])],[]⟩
abbrev out70:Shape:=⟨[(0,oB)],[]⟩
noncomputable def b70:Code:=Tryz.f70.body.getD .skip
abbrev sh70_0:Shape:=⟨[(0,.one (.d (.list r8))),(3,.one (.ptr 200000 0)),(5,oI)],[(200000,.box 47 [dI,dI,dI,dS])]⟩
abbrev os70_0:List (XE × Shape):=[(.ret,⟨[(4,oB)],[]⟩),(.ex 0,⟨[],[]⟩)]
noncomputable def cx70_0:Cx:=⟨Tryz.prog,[e117],[],54,[],[]⟩
def B70_0:Rnd (List R8 × Int × Int × Int × Int × ByteArray × Unit) ((Bool × Unit) ⊕ (Unit)):=round cx70_0 (sub [1,0,1,0,0] b70) sh70_0 os70_0
def ce70_0:CE:=⟨sh70_0,os70_0,loop B70_0⟩
noncomputable def cx70:Cx:=⟨Tryz.prog,[e117],[],54,[(4,ce70_0)],[]⟩
def F70:List R8 × Int × Int × Int × ByteArray × Unit → Option (Bool × Unit):=func cx70 Tryz.f70 b70 sh70 out70
def e70:FE:=⟨70,sh70,out70,F70⟩
abbrev sh39:Shape:=⟨[(0,.row [.d (.list r2),.d (.list r3)]),(1,oS),(2,.row [dS,dS,dS,dS,dS]),(3,.one (.d (.list r6)))],[]⟩
abbrev out39:Shape:=⟨[(0,.row [dS,dI,dI,dI,dS,dS,dI,dI,dI,dS]),(1,.row [dI,dS,dS,dI,dI,dI,dS,dI,dI,dI,dS])],[]⟩
noncomputable def b39:Code:=Tryz.f39.body.getD .skip
abbrev sh39_0:Shape:=⟨[(3,.one (.d (.list r6))),(6,.one (.ptr 200000 0)),(8,.one (.ptr 200001 0)),(9,.one (.ptr 200002 0)),(10,oS),(11,.one (.ptr 200003 0)),(16,.one (.ptr 200004 0)),(17,oI)],[(200000,.box 44 [dS,dS,dS,dS,dS]),(200001,.box 51 [dS,dI,dI,dI,dS,dS,dI,dI,dI,dS]),(200002,.box 49 [dI,dS,dS,dI,dI,dI,dS,dI,dI,dI,dS]),(200003,.box 47 [dI,dI,dI,dS]),(200004,.box 51 [dS,dI,dI,dI,dS,dS,dI,dI,dI,dS])]⟩
abbrev os39_0:List (XE × Shape):=[(.ret,⟨[(8,.one (.ptr 200000 0)),(9,.one (.ptr 200001 0))],[(200000,.box 51 [dS,dI,dI,dI,dS,dS,dI,dI,dI,dS]),(200001,.box 49 [dI,dS,dS,dI,dI,dI,dS,dI,dI,dI,dS])]⟩),(.ex 0,⟨[(8,.one (.ptr 200000 0)),(9,.one (.ptr 200001 0)),(16,.one (.ptr 200002 0))],[(200000,.box 51 [dS,dI,dI,dI,dS,dS,dI,dI,dI,dS]),(200001,.box 49 [dI,dS,dS,dI,dI,dI,dS,dI,dI,dI,dS]),(200002,.box 51 [dS,dI,dI,dI,dS,dS,dI,dI,dI,dS])]⟩)]
noncomputable def cx39_0:Cx:=⟨Tryz.prog,[e67,e68,e69,e70],[],114,[],[]⟩
def B39_0:Rnd (List R6 × ByteArray × Int × ByteArray × ByteArray × ByteArray × ByteArray × ByteArray × ByteArray × Int × Int × Int × ByteArray × ByteArray × Int × Int × Int × ByteArray × Int × ByteArray × ByteArray × Int × Int × Int × ByteArray × Int × Int × Int × ByteArray × Int × Int × Int × ByteArray × ByteArray × Int × Int × Int × ByteArray × ByteArray × Int × Int × Int × ByteArray × Unit) ((ByteArray × Int × Int × Int × ByteArray × ByteArray × Int × Int × Int × ByteArray × Int × ByteArray × ByteArray × Int × Int × Int × ByteArray × Int × Int × Int × ByteArray × Unit) ⊕ (ByteArray × Int × Int × Int × ByteArray × ByteArray × Int × Int × Int × ByteArray × Int × ByteArray × ByteArray × Int × Int × Int × ByteArray × Int × Int × Int × ByteArray × ByteArray × Int × Int × Int × ByteArray × ByteArray × Int × Int × Int × ByteArray × Unit)):=round cx39_0 (sub [1,1,1,1,1,1,1,0,1,0,0] b39) sh39_0 os39_0
def ce39_0:CE:=⟨sh39_0,os39_0,loop B39_0⟩
noncomputable def cx39:Cx:=⟨Tryz.prog,[e67,e68,e69,e70],[],114,[(28,ce39_0)],[]⟩
def F39:List R2 × List R3 × ByteArray × ByteArray × ByteArray × ByteArray × ByteArray × ByteArray × List R6 × Unit → Option (ByteArray × Int × Int × Int × ByteArray × ByteArray × Int × Int × Int × ByteArray × Int × ByteArray × ByteArray × Int × Int × Int × ByteArray × Int × Int × Int × ByteArray × Unit):=func cx39 Tryz.f39 b39 sh39 out39
def e39:FE:=⟨39,sh39,out39,F39⟩
abbrev sh14:Shape:=⟨[(0,.row [.d (.list r2),.d (.list r3)]),(1,oS),(2,.one (.d (.list r7)))],[]⟩
abbrev out14:Shape:=⟨[(0,.one (.d (.list r6))),(1,.one (.d (.list r10)))],[]⟩
noncomputable def b14:Code:=Tryz.f14.body.getD .skip
abbrev sh14_0:Shape:=⟨[(1,oS),(2,.one (.d (.list r7))),(3,.one (.ptr 200000 0)),(8,.one (.own 200001)),(9,.one (.own 200002)),(10,oI),(11,.one (.ptr 200003 0)),(13,oI)],[(200000,.box 27 [.d (.list r2),.d (.list r3)]),(200001,.lst 51 r6 true),(200002,.lst 49 r10 true),(200003,.box 51 [dS,dI,dI,dI,dS,dS,dI,dI,dI,dS])]⟩
abbrev os14_0:List (XE × Shape):=[(.ex 2,⟨[(1,oS),(2,.one (.d (.list r7))),(3,.one (.ptr 200000 0)),(8,.one (.own 200001)),(9,.one (.own 200002)),(10,oI),(11,.one (.ptr 200003 0)),(13,oI)],[(200000,.box 27 [.d (.list r2),.d (.list r3)]),(200001,.lst 51 r6 true),(200002,.lst 49 r10 true),(200003,.box 51 [dS,dI,dI,dI,dS,dS,dI,dI,dI,dS])]⟩)]
noncomputable def cx14_0:Cx:=⟨Tryz.prog,[e39],[],82,[],[]⟩
def B14_0:Rnd (ByteArray × List R7 × Int × Int × List R2 × List R3 × List R6 × List R10 × ByteArray × Int × Int × Int × ByteArray × ByteArray × Int × Int × Int × ByteArray × Unit) (ByteArray × List R7 × Int × Int × List R2 × List R3 × List R6 × List R10 × ByteArray × Int × Int × Int × ByteArray × ByteArray × Int × Int × Int × ByteArray × Unit):=round cx14_0 (sub [1,1,1,0,1,0,0,1,0,0,1,1,1,0,0,0] b14) sh14_0 os14_0
def ce14_0:CE:=⟨sh14_0,os14_0,loop B14_0⟩
abbrev sh14_1:Shape:=⟨[(1,oS),(2,.one (.d (.list r7))),(3,.one (.ptr 200000 0)),(8,.one (.own 200001)),(9,.one (.own 200002)),(10,oI)],[(200000,.box 27 [.d (.list r2),.d (.list r3)]),(200001,.lst 51 r6 true),(200002,.lst 49 r10 true)]⟩
abbrev os14_1:List (XE × Shape):=[(.ex 0,⟨[(8,.one (.own 200000)),(9,.one (.own 200001))],[(200000,.lst 51 r6 true),(200001,.lst 49 r10 true)]⟩)]
noncomputable def cx14_1:Cx:=⟨Tryz.prog,[e39],[],82,[(20,ce14_0)],[]⟩
def B14_1:Rnd (ByteArray × List R7 × Int × List R2 × List R3 × List R6 × List R10 × Unit) (List R6 × List R10 × Unit):=round cx14_1 (sub [1,1,1,0,1,0,0] b14) sh14_1 os14_1
def ce14_1:CE:=⟨sh14_1,os14_1,loop B14_1⟩
noncomputable def cx14:Cx:=⟨Tryz.prog,[e39],[],82,[(20,ce14_0),(8,ce14_1)],[]⟩
def F14:List R2 × List R3 × ByteArray × List R7 × Unit → Option (List R6 × List R10 × Unit):=func cx14 Tryz.f14 b14 sh14 out14
def e14:FE:=⟨14,sh14,out14,F14⟩
abbrev sh15:Shape:=⟨[(0,.one (.d (.list r6))),(1,.one (.d (.list r6)))],[]⟩
abbrev out15:Shape:=⟨[(0,oB)],[]⟩
noncomputable def b15:Code:=Tryz.f15.body.getD .skip
abbrev sh15_0:Shape:=⟨[(0,.one (.d (.list r6))),(1,.one (.d (.list r6))),(5,oI)],[]⟩
abbrev os15_0:List (XE × Shape):=[(.ret,⟨[(4,oB)],[]⟩),(.ex 0,⟨[],[]⟩)]
noncomputable def cx15_0:Cx:=⟨Tryz.prog,[],[],26,[],[]⟩
def B15_0:Rnd (List R6 × List R6 × Int × Unit) ((Bool × Unit) ⊕ (Unit)):=round cx15_0 (sub [1,1,0,1,0,0] b15) sh15_0 os15_0
def ce15_0:CE:=⟨sh15_0,os15_0,loop B15_0⟩
theorem okc15_0:CEOK Tryz.prog 26 (.at (.loop (sub [1,1,0,1,0,0] b15))) ce15_0:=ck cx15_0 trivial [] trivial
noncomputable def cx15:Cx:=⟨Tryz.prog,[],[],26,[(8,ce15_0)],[]⟩
def F15:List R6 × List R6 × Unit → Option (Bool × Unit):=func cx15 Tryz.f15 b15 sh15 out15
def e15:FE:=⟨15,sh15,out15,F15⟩
theorem ok15:FEOK Tryz.prog e15:=fk cx15 trivial [((.at (.loop (sub [1,1,0,1,0,0] b15))),ce15_0)] ⟨okc15_0,trivial⟩
abbrev sh16:Shape:=⟨[(0,.one (.d (.list r6)))],[]⟩
abbrev out16:Shape:=⟨[(0,.one (.d (.list r6)))],[]⟩
noncomputable def b16:Code:=Tryz.f16.body.getD .skip
abbrev sh16_0:Shape:=⟨[(0,.one (.d (.list r6))),(3,.one (.own 200000)),(4,oI)],[(200000,.lst 51 r6 true)]⟩
abbrev os16_0:List (XE × Shape):=[(.ex 0,⟨[(3,.one (.own 200000))],[(200000,.lst 51 r6 true)]⟩)]
noncomputable def cx16_0:Cx:=⟨Tryz.prog,[],[],19,[],[]⟩
def B16_0:Rnd (List R6 × Int × List R6 × Unit) (List R6 × Unit):=round cx16_0 (sub [1,1,0,1,0,0] b16) sh16_0 os16_0
def ce16_0:CE:=⟨sh16_0,os16_0,loop B16_0⟩
theorem okc16_0:CEOK Tryz.prog 19 (.at (.loop (sub [1,1,0,1,0,0] b16))) ce16_0:=ck cx16_0 trivial [] trivial
noncomputable def cx16:Cx:=⟨Tryz.prog,[],[],19,[(6,ce16_0)],[]⟩
def F16:List R6 × Unit → Option (List R6 × Unit):=func cx16 Tryz.f16 b16 sh16 out16
def e16:FE:=⟨16,sh16,out16,F16⟩
theorem ok16:FEOK Tryz.prog e16:=fk cx16 trivial [((.at (.loop (sub [1,1,0,1,0,0] b16))),ce16_0)] ⟨okc16_0,trivial⟩
abbrev sh17:Shape:=⟨[(0,.one (.d (.list r10))),(1,.one (.d (.list r10)))],[]⟩
abbrev out17:Shape:=⟨[(0,oB)],[]⟩
noncomputable def b17:Code:=Tryz.f17.body.getD .skip
abbrev sh17_0:Shape:=⟨[(0,.one (.d (.list r10))),(1,.one (.d (.list r10))),(5,oI)],[]⟩
abbrev os17_0:List (XE × Shape):=[(.ret,⟨[(4,oB)],[]⟩),(.ex 0,⟨[],[]⟩)]
noncomputable def cx17_0:Cx:=⟨Tryz.prog,[],[],26,[],[]⟩
def B17_0:Rnd (List R10 × List R10 × Int × Unit) ((Bool × Unit) ⊕ (Unit)):=round cx17_0 (sub [1,1,0,1,0,0] b17) sh17_0 os17_0
def ce17_0:CE:=⟨sh17_0,os17_0,loop B17_0⟩
noncomputable def cx17:Cx:=⟨Tryz.prog,[],[],26,[(8,ce17_0)],[]⟩
def F17:List R10 × List R10 × Unit → Option (Bool × Unit):=func cx17 Tryz.f17 b17 sh17 out17
def e17:FE:=⟨17,sh17,out17,F17⟩
abbrev sh123:Shape:=⟨[(0,.one (.d (.list (.int .i64))))],[]⟩
abbrev out123:Shape:=⟨[(0,oI)],[]⟩
noncomputable def b123:Code:=Tryz.f123.body.getD .skip
abbrev sh123_0:Shape:=⟨[(5,.one (.d (.list (.int .i64)))),(6,oI),(7,oI)],[]⟩
abbrev os123_0:List (XE × Shape):=[(.ret,⟨[(2,oI)],[]⟩),(.ex 0,⟨[],[]⟩)]
noncomputable def cx123_0:Cx:=⟨Tryz.prog,[],[],15,[],[]⟩
def B123_0:Rnd (List Int × Int × Int × Unit) ((Int × Unit) ⊕ (Unit)):=round cx123_0 (sub [1,0,1,0,0] b123) sh123_0 os123_0
def ce123_0:CE:=⟨sh123_0,os123_0,loop B123_0⟩
theorem okc123_0:CEOK Tryz.prog 15 (.at (.loop (sub [1,0,1,0,0] b123))) ce123_0:=ck cx123_0 trivial [] trivial
noncomputable def cx123:Cx:=⟨Tryz.prog,[],[],15,[(4,ce123_0)],[]⟩
def F123:List Int × Unit → Option (Int × Unit):=func cx123 Tryz.f123 b123 sh123 out123
def e123:FE:=⟨123,sh123,out123,F123⟩
theorem ok123:FEOK Tryz.prog e123:=fk cx123 trivial [((.at (.loop (sub [1,0,1,0,0] b123))),ce123_0)] ⟨okc123_0,trivial⟩
abbrev sh72:Shape:=⟨[(0,.row [dS,dI,dI,dI,dS]),(1,.row [dS,dI,dI,dI,dS])],[]⟩
abbrev out72:Shape:=⟨[(0,oI)],[]⟩
noncomputable def b72:Code:=Tryz.f72.body.getD .skip
noncomputable def cx72:Cx:=⟨Tryz.prog,[e36,e45,e123],[],17,[],[]⟩
def F72:ByteArray × Int × Int × Int × ByteArray × ByteArray × Int × Int × Int × ByteArray × Unit → Option (Int × Unit):=func cx72 Tryz.f72 b72 sh72 out72
def e72:FE:=⟨72,sh72,out72,F72⟩
theorem ok72:FEOK Tryz.prog e72:=fk cx72 ⟨ok36,ok45,ok123,trivial⟩ [] trivial
abbrev sh224:Shape:=⟨[(0,.one (.own 100000)),(1,oI),(2,oI),(3,.one (.fn 72))],[(100000,.lst 68 r0 false)]⟩
abbrev out224:Shape:=⟨[],[(100000,.lst 68 r0 false)]⟩
noncomputable def b224:Code:=Tryz.f224.body.getD .skip
abbrev sh224_0:Shape:=⟨[(0,.one (.own 100000)),(1,oI),(2,oI),(3,.one (.fn 72)),(8,oI),(9,oI)],[(100000,.lst 68 r0 false)]⟩
abbrev os224_0:List (XE × Shape):=[(.ex 2,⟨[(0,.one (.own 100000)),(1,oI),(2,oI),(3,.one (.fn 72)),(8,oI)],[(100000,.lst 68 r0 false)]⟩)]
noncomputable def cx224_0:Cx:=⟨Tryz.prog,[e72],(List.range 53),53,[],[]⟩
def B224_0:Rnd (Int × Int × Int × Int × List R0 × Unit) (Int × Int × Int × List R0 × Unit):=round cx224_0 (sub [1,0,0,1,0,0,1,0,0] b224) sh224_0 os224_0
def ce224_0:CE:=⟨sh224_0,os224_0,loop B224_0⟩
theorem okc224_0:CEOK Tryz.prog 53 (.at (.loop (sub [1,0,0,1,0,0,1,0,0] b224))) ce224_0:=ck cx224_0 ⟨ok72,trivial⟩ [] trivial
abbrev sh224_1:Shape:=⟨[(0,.one (.own 100000)),(1,oI),(2,oI),(3,.one (.fn 72)),(8,oI)],[(100000,.lst 68 r0 false)]⟩
abbrev os224_1:List (XE × Shape):=[(.ex 0,⟨[],[(100000,.lst 68 r0 false)]⟩)]
noncomputable def cx224_1:Cx:=⟨Tryz.prog,[e72],(List.range 53),53,[(8,ce224_0)],[]⟩
def B224_1:Rnd (Int × Int × Int × List R0 × Unit) (List R0 × Unit):=round cx224_1 (sub [1,0,0] b224) sh224_1 os224_1
def ce224_1:CE:=⟨sh224_1,os224_1,loop B224_1⟩
theorem okc224_1:CEOK Tryz.prog 53 (.at (.loop (sub [1,0,0] b224))) ce224_1:=ck cx224_1 ⟨ok72,trivial⟩ [((.at (.loop (sub [1,0,0,1,0,0,1,0,0] b224))),ce224_0)] ⟨okc224_0,trivial⟩
noncomputable def cx224:Cx:=⟨Tryz.prog,[e72],(List.range 53),53,[(8,ce224_0),(2,ce224_1)],[]⟩
def F224:Int × Int × List R0 × Unit → Option (List R0 × Unit):=func cx224 Tryz.f224 b224 sh224 out224
def e224:FE:=⟨224,sh224,out224,F224⟩
theorem ok224:FEOK Tryz.prog e224:=fk cx224 ⟨ok72,trivial⟩ [((.at (.loop (sub [1,0,0] b224))),ce224_1)] ⟨okc224_1,trivial⟩
abbrev sh181:Shape:=⟨[(0,.one (.own 100000)),(1,oI),(2,.one (.fn 72))],[(100000,.lst 68 r0 false)]⟩
abbrev out181:Shape:=⟨[],[(100000,.lst 68 r0 false)]⟩
noncomputable def b181:Code:=Tryz.f181.body.getD .skip
abbrev sh181_0:Shape:=⟨[(0,.one (.own 100000)),(1,oI),(2,.one (.fn 72)),(6,oI),(7,oI),(8,oI)],[(100000,.lst 68 r0 false)]⟩
abbrev os181_0:List (XE × Shape):=[(.ex 0,⟨[(0,.one (.own 100000)),(1,oI),(2,.one (.fn 72)),(6,oI),(7,oI)],[(100000,.lst 68 r0 false)]⟩)]
noncomputable def cx181_0:Cx:=⟨Tryz.prog,[e224],(List.range 63),63,[],[]⟩
def B181_0:Rnd (Int × Int × Int × Int × List R0 × Unit) (Int × Int × Int × List R0 × Unit):=round cx181_0 (sub [1,1,0,0,0] b181) sh181_0 os181_0
def ce181_0:CE:=⟨sh181_0,os181_0,loop B181_0⟩
theorem okc181_0:CEOK Tryz.prog 63 (.at (.loop (sub [1,1,0,0,0] b181))) ce181_0:=ck cx181_0 ⟨ok224,trivial⟩ [] trivial
abbrev sh181_1:Shape:=⟨[(0,.one (.own 100000)),(1,oI),(2,.one (.fn 72)),(6,oI),(7,oI),(8,oI)],[(100000,.lst 68 r0 false)]⟩
abbrev os181_1:List (XE × Shape):=[(.ex 4,⟨[(0,.one (.own 100000)),(1,oI),(2,.one (.fn 72)),(6,oI),(7,oI)],[(100000,.lst 68 r0 false)]⟩)]
noncomputable def cx181_1:Cx:=⟨Tryz.prog,[e224],(List.range 63),63,[(4,ce181_0)],[]⟩
def B181_1:Rnd (Int × Int × Int × Int × List R0 × Unit) (Int × Int × Int × List R0 × Unit):=round cx181_1 (sub [1,1,1,1,0,0,1,0,1,0,0,0] b181) sh181_1 os181_1
def ce181_1:CE:=⟨sh181_1,os181_1,loop B181_1⟩
theorem okc181_1:CEOK Tryz.prog 63 (.at (.loop (sub [1,1,1,1,0,0,1,0,1,0,0,0] b181))) ce181_1:=ck cx181_1 ⟨ok224,trivial⟩ [] trivial
abbrev sh181_2:Shape:=⟨[(0,.one (.own 100000)),(1,oI),(2,.one (.fn 72)),(6,oI)],[(100000,.lst 68 r0 false)]⟩
abbrev os181_2:List (XE × Shape):=[(.ex 2,⟨[],[(100000,.lst 68 r0 false)]⟩)]
noncomputable def cx181_2:Cx:=⟨Tryz.prog,[e224],(List.range 63),63,[(4,ce181_0),(18,ce181_1)],[]⟩
def B181_2:Rnd (Int × Int × List R0 × Unit) (List R0 × Unit):=round cx181_2 (sub [1,1,1,1,0,0] b181) sh181_2 os181_2
def ce181_2:CE:=⟨sh181_2,os181_2,loop B181_2⟩
theorem okc181_2:CEOK Tryz.prog 63 (.at (.loop (sub [1,1,1,1,0,0] b181))) ce181_2:=ck cx181_2 ⟨ok224,trivial⟩ [((.at (.loop (sub [1,1,1,1,0,0,1,0,1,0,0,0] b181))),ce181_1)] ⟨okc181_1,trivial⟩
noncomputable def cx181:Cx:=⟨Tryz.prog,[e224],(List.range 63),63,[(4,ce181_0),(18,ce181_1),(14,ce181_2)],[]⟩
def F181:Int × List R0 × Unit → Option (List R0 × Unit):=func cx181 Tryz.f181 b181 sh181 out181
def e181:FE:=⟨181,sh181,out181,F181⟩
theorem ok181:FEOK Tryz.prog e181:=fk cx181 ⟨ok224,trivial⟩ [((.at (.loop (sub [1,1,0,0,0] b181))),ce181_0),((.at (.loop (sub [1,1,1,1,0,0] b181))),ce181_2)] ⟨okc181_0,okc181_2,trivial⟩
abbrev sh120:Shape:=⟨[(0,.one (.own 100000)),(1,.one (.fn 72))],[(100000,.lst 68 r0 false)]⟩
abbrev out120:Shape:=⟨[],[(100000,.lst 68 r0 false)]⟩
noncomputable def b120:Code:=Tryz.f120.body.getD .skip
noncomputable def cx120:Cx:=⟨Tryz.prog,[e181],[0,1,2,3,4,5,6,7,8],9,[],[]⟩
def F120:List R0 × Unit → Option (List R0 × Unit):=func cx120 Tryz.f120 b120 sh120 out120
def e120:FE:=⟨120,sh120,out120,F120⟩
theorem ok120:FEOK Tryz.prog e120:=fk cx120 ⟨ok181,trivial⟩ [] trivial
abbrev sh121o:Shape:=⟨[(0,.one (.os 100000 5))],[(100000,.lst 68 r0 false)]⟩
abbrev out121o:Shape:=⟨[(0,.one (.own 200000))],[(100000,.dead),(200000,.lst 68 r0 false)]⟩
noncomputable def b121o:Code:=Tryz.f121.body.getD .skip
noncomputable def cx121o:Cx:=⟨Tryz.prog,[],[0,1,2,3,4,5,6,7,8,100008],9,[],[]⟩
def F121o:Nat × Nat × List R0 × Unit → Option (List R0 × Unit):=func cx121o Tryz.f121 b121o sh121o out121o
def e121o:FE:=⟨121,sh121o,out121o,F121o⟩
theorem ok121o:FEOK Tryz.prog e121o:=fk cx121o trivial [] trivial
abbrev sh122o:Shape:=⟨[(0,.one (.own 100000))],[(100000,.lst 68 r0 false)]⟩
abbrev out122o:Shape:=⟨[(0,.one (.os 100000 5))],[(100000,.lst 68 r0 false)]⟩
noncomputable def b122o:Code:=Tryz.f122.body.getD .skip
abbrev sh122o_0:Shape:=⟨[(0,.one (.own 100000)),(3,oI),(4,.one (.os 100000 5)),(5,oI)],[(100000,.lst 68 r0 false)]⟩
abbrev os122o_0:List (XE × Shape):=[(.ex 2,⟨[(0,.one (.own 100000)),(3,oI)],[(100000,.lst 68 r0 false)]⟩)]
noncomputable def cx122o_0:Cx:=⟨Tryz.prog,[],(List.range 61),61,[],[]⟩
def B122o_0:Rnd (Int × Nat × Nat × Int × List R0 × Unit) (Int × List R0 × Unit):=round cx122o_0 (sub [1,1,0,1,0,0,1,0,0,1,0,1,0,1,0,0] b122o) sh122o_0 os122o_0
def ce122o_0:CE:=⟨sh122o_0,os122o_0,loop B122o_0⟩
theorem okc122o_0:CEOK Tryz.prog 61 (.at (.loop (sub [1,1,0,1,0,0,1,0,0,1,0,1,0,1,0,0] b122o))) ce122o_0:=ck cx122o_0 trivial [] trivial
abbrev sh122o_1:Shape:=⟨[(0,.one (.own 100000)),(3,oI)],[(100000,.lst 68 r0 false)]⟩
abbrev os122o_1:List (XE × Shape):=[(.ret,⟨[(2,.one (.os 100000 5))],[(100000,.lst 68 r0 false)]⟩),(.ex 0,⟨[(0,.one (.own 100000))],[(100000,.lst 68 r0 false)]⟩)]
noncomputable def cx122o_1:Cx:=⟨Tryz.prog,[],(List.range 61),61,[(18,ce122o_0)],[]⟩
def B122o_1:Rnd (Int × List R0 × Unit) ((Nat × Nat × List R0 × Unit) ⊕ (List R0 × Unit)):=round cx122o_1 (sub [1,1,0,1,0,0] b122o) sh122o_1 os122o_1
def ce122o_1:CE:=⟨sh122o_1,os122o_1,loop B122o_1⟩
theorem okc122o_1:CEOK Tryz.prog 61 (.at (.loop (sub [1,1,0,1,0,0] b122o))) ce122o_1:=ck cx122o_1 trivial [((.at (.loop (sub [1,1,0,1,0,0,1,0,0,1,0,1,0,1,0,0] b122o))),ce122o_0)] ⟨okc122o_0,trivial⟩
noncomputable def cx122o:Cx:=⟨Tryz.prog,[],(List.range 61),61,[(18,ce122o_0),(8,ce122o_1)],[]⟩
def F122o:List R0 × Unit → Option (Nat × Nat × List R0 × Unit):=func cx122o Tryz.f122 b122o sh122o out122o
def e122o:FE:=⟨122,sh122o,out122o,F122o⟩
theorem ok122o:FEOK Tryz.prog e122o:=fk cx122o trivial [((.at (.loop (sub [1,1,0,1,0,0] b122o))),ce122o_1)] ⟨okc122o_1,trivial⟩
abbrev sh47o:Shape:=⟨[(0,.one (.d (.list r0)))],[]⟩
abbrev out47o:Shape:=⟨[(0,.one (.own 200000))],[(200000,.lst 68 r0 false)]⟩
noncomputable def b47o:Code:=Tryz.f47.body.getD .skip
noncomputable def cx47o:Cx:=⟨Tryz.prog,[],[0,1,2,3,4,5,6,7],8,[],[]⟩
def Fg47o:List R0 × Unit → Option (List R0 × Unit):=func cx47o Tryz.f47 b47o sh47o out47o
theorem okg47o:FEOK Tryz.prog ⟨47,sh47o,out47o,Fg47o⟩:=fk cx47o trivial [] trivial
def F47o:List R0 × Unit → Option (List R0 × Unit):=fun (x0,_) => bif Nat.ble (List.length x0) 2513169434916 then some (x0,()) else none
def e47o:FE:=⟨47,sh47o,out47o,F47o⟩
theorem Fg47o_eq (x0:List R0):Fg47o (x0,()) = bif List.isEmpty x0 then both (some ([],())) (bif decide (0 + List.length x0 ≤ 2513169434916) then some ([] ++ x0,()) else none) else (bif decide (0 + List.length x0 ≤ 2513169434916) then some ([] ++ x0,()) else none):=by kernel_rfl
theorem ok47o:FEOK Tryz.prog e47o:=by
 intro p r hr
 obtain ⟨x0,⟨⟩⟩:=p
 exact okg47o (x0,()) r (clone_ok (l:=x0) (Fg47o_eq x0) hr (fun h => by cases x0 with | nil => rfl | cons _ _ => cases h) rfl)
abbrev sh71:Shape:=⟨[(0,.one (.d (.list r0))),(1,.one (.fn 72))],[]⟩
abbrev out71:Shape:=⟨[(0,.one (.own 200000))],[(200000,.lst 68 r0 true)]⟩
noncomputable def b71:Code:=Tryz.f71.body.getD .skip
noncomputable def cx71:Cx:=⟨Tryz.prog,[e47o,e120,e121o,e122o],(List.range 14),14,[],[1200832]⟩
def F71:List R0 × Unit → Option (List R0 × Unit):=func cx71 Tryz.f71 b71 sh71 out71
def e71:FE:=⟨71,sh71,out71,F71⟩
theorem ok71:FEOK Tryz.prog e71:=fk cx71 ⟨ok47o,ok120,ok121o,ok122o,trivial⟩ [] trivial
abbrev sh74:Shape:=⟨[(0,.row [dS,dS,dI,dI,dI,dS]),(1,.row [dS,dS,dI,dI,dI,dS])],[]⟩
abbrev out74:Shape:=⟨[(0,oI)],[]⟩
noncomputable def b74:Code:=Tryz.f74.body.getD .skip
noncomputable def cx74:Cx:=⟨Tryz.prog,[e36,e45,e123],[],22,[],[]⟩
def F74:ByteArray × ByteArray × Int × Int × Int × ByteArray × ByteArray × ByteArray × Int × Int × Int × ByteArray × Unit → Option (Int × Unit):=func cx74 Tryz.f74 b74 sh74 out74
def e74:FE:=⟨74,sh74,out74,F74⟩
theorem ok74:FEOK Tryz.prog e74:=fk cx74 ⟨ok36,ok45,ok123,trivial⟩ [] trivial
abbrev sh226:Shape:=⟨[(0,.one (.own 100000)),(1,oI),(2,oI),(3,.one (.fn 74))],[(100000,.lst 100 r4 false)]⟩
abbrev out226:Shape:=⟨[],[(100000,.lst 100 r4 false)]⟩
noncomputable def b226:Code:=Tryz.f226.body.getD .skip
abbrev sh226_0:Shape:=⟨[(0,.one (.own 100000)),(1,oI),(2,oI),(3,.one (.fn 74)),(8,oI),(9,oI)],[(100000,.lst 100 r4 false)]⟩
abbrev os226_0:List (XE × Shape):=[(.ex 2,⟨[(0,.one (.own 100000)),(1,oI),(2,oI),(3,.one (.fn 74)),(8,oI)],[(100000,.lst 100 r4 false)]⟩)]
noncomputable def cx226_0:Cx:=⟨Tryz.prog,[e74],(List.range 53),53,[],[]⟩
def B226_0:Rnd (Int × Int × Int × Int × List R4 × Unit) (Int × Int × Int × List R4 × Unit):=round cx226_0 (sub [1,0,0,1,0,0,1,0,0] b226) sh226_0 os226_0
def ce226_0:CE:=⟨sh226_0,os226_0,loop B226_0⟩
theorem okc226_0:CEOK Tryz.prog 53 (.at (.loop (sub [1,0,0,1,0,0,1,0,0] b226))) ce226_0:=ck cx226_0 ⟨ok74,trivial⟩ [] trivial
abbrev sh226_1:Shape:=⟨[(0,.one (.own 100000)),(1,oI),(2,oI),(3,.one (.fn 74)),(8,oI)],[(100000,.lst 100 r4 false)]⟩
abbrev os226_1:List (XE × Shape):=[(.ex 0,⟨[],[(100000,.lst 100 r4 false)]⟩)]
noncomputable def cx226_1:Cx:=⟨Tryz.prog,[e74],(List.range 53),53,[(8,ce226_0)],[]⟩
def B226_1:Rnd (Int × Int × Int × List R4 × Unit) (List R4 × Unit):=round cx226_1 (sub [1,0,0] b226) sh226_1 os226_1
def ce226_1:CE:=⟨sh226_1,os226_1,loop B226_1⟩
theorem okc226_1:CEOK Tryz.prog 53 (.at (.loop (sub [1,0,0] b226))) ce226_1:=ck cx226_1 ⟨ok74,trivial⟩ [((.at (.loop (sub [1,0,0,1,0,0,1,0,0] b226))),ce226_0)] ⟨okc226_0,trivial⟩
noncomputable def cx226:Cx:=⟨Tryz.prog,[e74],(List.range 53),53,[(8,ce226_0),(2,ce226_1)],[]⟩
def F226:Int × Int × List R4 × Unit → Option (List R4 × Unit):=func cx226 Tryz.f226 b226 sh226 out226
def e226:FE:=⟨226,sh226,out226,F226⟩
theorem ok226:FEOK Tryz.prog e226:=fk cx226 ⟨ok74,trivial⟩ [((.at (.loop (sub [1,0,0] b226))),ce226_1)] ⟨okc226_1,trivial⟩
abbrev sh182:Shape:=⟨[(0,.one (.own 100000)),(1,oI),(2,.one (.fn 74))],[(100000,.lst 100 r4 false)]⟩
abbrev out182:Shape:=⟨[],[(100000,.lst 100 r4 false)]⟩
noncomputable def b182:Code:=Tryz.f182.body.getD .skip
abbrev sh182_0:Shape:=⟨[(0,.one (.own 100000)),(1,oI),(2,.one (.fn 74)),(6,oI),(7,oI),(8,oI)],[(100000,.lst 100 r4 false)]⟩
abbrev os182_0:List (XE × Shape):=[(.ex 0,⟨[(0,.one (.own 100000)),(1,oI),(2,.one (.fn 74)),(6,oI),(7,oI)],[(100000,.lst 100 r4 false)]⟩)]
noncomputable def cx182_0:Cx:=⟨Tryz.prog,[e226],(List.range 63),63,[],[]⟩
def B182_0:Rnd (Int × Int × Int × Int × List R4 × Unit) (Int × Int × Int × List R4 × Unit):=round cx182_0 (sub [1,1,0,0,0] b182) sh182_0 os182_0
def ce182_0:CE:=⟨sh182_0,os182_0,loop B182_0⟩
theorem okc182_0:CEOK Tryz.prog 63 (.at (.loop (sub [1,1,0,0,0] b182))) ce182_0:=ck cx182_0 ⟨ok226,trivial⟩ [] trivial
abbrev sh182_1:Shape:=⟨[(0,.one (.own 100000)),(1,oI),(2,.one (.fn 74)),(6,oI),(7,oI),(8,oI)],[(100000,.lst 100 r4 false)]⟩
abbrev os182_1:List (XE × Shape):=[(.ex 4,⟨[(0,.one (.own 100000)),(1,oI),(2,.one (.fn 74)),(6,oI),(7,oI)],[(100000,.lst 100 r4 false)]⟩)]
noncomputable def cx182_1:Cx:=⟨Tryz.prog,[e226],(List.range 63),63,[(4,ce182_0)],[]⟩
def B182_1:Rnd (Int × Int × Int × Int × List R4 × Unit) (Int × Int × Int × List R4 × Unit):=round cx182_1 (sub [1,1,1,1,0,0,1,0,1,0,0,0] b182) sh182_1 os182_1
def ce182_1:CE:=⟨sh182_1,os182_1,loop B182_1⟩
theorem okc182_1:CEOK Tryz.prog 63 (.at (.loop (sub [1,1,1,1,0,0,1,0,1,0,0,0] b182))) ce182_1:=ck cx182_1 ⟨ok226,trivial⟩ [] trivial
abbrev sh182_2:Shape:=⟨[(0,.one (.own 100000)),(1,oI),(2,.one (.fn 74)),(6,oI)],[(100000,.lst 100 r4 false)]⟩
abbrev os182_2:List (XE × Shape):=[(.ex 2,⟨[],[(100000,.lst 100 r4 false)]⟩)]
noncomputable def cx182_2:Cx:=⟨Tryz.prog,[e226],(List.range 63),63,[(4,ce182_0),(18,ce182_1)],[]⟩
def B182_2:Rnd (Int × Int × List R4 × Unit) (List R4 × Unit):=round cx182_2 (sub [1,1,1,1,0,0] b182) sh182_2 os182_2
def ce182_2:CE:=⟨sh182_2,os182_2,loop B182_2⟩
theorem okc182_2:CEOK Tryz.prog 63 (.at (.loop (sub [1,1,1,1,0,0] b182))) ce182_2:=ck cx182_2 ⟨ok226,trivial⟩ [((.at (.loop (sub [1,1,1,1,0,0,1,0,1,0,0,0] b182))),ce182_1)] ⟨okc182_1,trivial⟩
noncomputable def cx182:Cx:=⟨Tryz.prog,[e226],(List.range 63),63,[(4,ce182_0),(18,ce182_1),(14,ce182_2)],[]⟩
def F182:Int × List R4 × Unit → Option (List R4 × Unit):=func cx182 Tryz.f182 b182 sh182 out182
def e182:FE:=⟨182,sh182,out182,F182⟩
theorem ok182:FEOK Tryz.prog e182:=fk cx182 ⟨ok226,trivial⟩ [((.at (.loop (sub [1,1,0,0,0] b182))),ce182_0),((.at (.loop (sub [1,1,1,1,0,0] b182))),ce182_2)] ⟨okc182_0,okc182_2,trivial⟩
abbrev sh124:Shape:=⟨[(0,.one (.own 100000)),(1,.one (.fn 74))],[(100000,.lst 100 r4 false)]⟩
abbrev out124:Shape:=⟨[],[(100000,.lst 100 r4 false)]⟩
noncomputable def b124:Code:=Tryz.f124.body.getD .skip
noncomputable def cx124:Cx:=⟨Tryz.prog,[e182],[0,1,2,3,4,5,6,7,8],9,[],[]⟩
def F124:List R4 × Unit → Option (List R4 × Unit):=func cx124 Tryz.f124 b124 sh124 out124
def e124:FE:=⟨124,sh124,out124,F124⟩
theorem ok124:FEOK Tryz.prog e124:=fk cx124 ⟨ok182,trivial⟩ [] trivial
abbrev sh125o:Shape:=⟨[(0,.one (.os 100000 6))],[(100000,.lst 100 r4 false)]⟩
abbrev out125o:Shape:=⟨[(0,.one (.own 200000))],[(100000,.dead),(200000,.lst 100 r4 false)]⟩
noncomputable def b125o:Code:=Tryz.f125.body.getD .skip
noncomputable def cx125o:Cx:=⟨Tryz.prog,[],[0,1,2,3,4,5,6,7,8,100008],9,[],[]⟩
def F125o:Nat × Nat × List R4 × Unit → Option (List R4 × Unit):=func cx125o Tryz.f125 b125o sh125o out125o
def e125o:FE:=⟨125,sh125o,out125o,F125o⟩
theorem ok125o:FEOK Tryz.prog e125o:=fk cx125o trivial [] trivial
abbrev sh126o:Shape:=⟨[(0,.one (.own 100000))],[(100000,.lst 100 r4 false)]⟩
abbrev out126o:Shape:=⟨[(0,.one (.os 100000 6))],[(100000,.lst 100 r4 false)]⟩
noncomputable def b126o:Code:=Tryz.f126.body.getD .skip
abbrev sh126o_0:Shape:=⟨[(0,.one (.own 100000)),(3,oI),(4,.one (.os 100000 6)),(5,oI)],[(100000,.lst 100 r4 false)]⟩
abbrev os126o_0:List (XE × Shape):=[(.ex 2,⟨[(0,.one (.own 100000)),(3,oI)],[(100000,.lst 100 r4 false)]⟩)]
noncomputable def cx126o_0:Cx:=⟨Tryz.prog,[],(List.range 61),61,[],[]⟩
def B126o_0:Rnd (Int × Nat × Nat × Int × List R4 × Unit) (Int × List R4 × Unit):=round cx126o_0 (sub [1,1,0,1,0,0,1,0,0,1,0,1,0,1,0,0] b126o) sh126o_0 os126o_0
def ce126o_0:CE:=⟨sh126o_0,os126o_0,loop B126o_0⟩
theorem okc126o_0:CEOK Tryz.prog 61 (.at (.loop (sub [1,1,0,1,0,0,1,0,0,1,0,1,0,1,0,0] b126o))) ce126o_0:=ck cx126o_0 trivial [] trivial
abbrev sh126o_1:Shape:=⟨[(0,.one (.own 100000)),(3,oI)],[(100000,.lst 100 r4 false)]⟩
abbrev os126o_1:List (XE × Shape):=[(.ret,⟨[(2,.one (.os 100000 6))],[(100000,.lst 100 r4 false)]⟩),(.ex 0,⟨[(0,.one (.own 100000))],[(100000,.lst 100 r4 false)]⟩)]
noncomputable def cx126o_1:Cx:=⟨Tryz.prog,[],(List.range 61),61,[(18,ce126o_0)],[]⟩
def B126o_1:Rnd (Int × List R4 × Unit) ((Nat × Nat × List R4 × Unit) ⊕ (List R4 × Unit)):=round cx126o_1 (sub [1,1,0,1,0,0] b126o) sh126o_1 os126o_1
def ce126o_1:CE:=⟨sh126o_1,os126o_1,loop B126o_1⟩
theorem okc126o_1:CEOK Tryz.prog 61 (.at (.loop (sub [1,1,0,1,0,0] b126o))) ce126o_1:=ck cx126o_1 trivial [((.at (.loop (sub [1,1,0,1,0,0,1,0,0,1,0,1,0,1,0,0] b126o))),ce126o_0)] ⟨okc126o_0,trivial⟩
noncomputable def cx126o:Cx:=⟨Tryz.prog,[],(List.range 61),61,[(18,ce126o_0),(8,ce126o_1)],[]⟩
def F126o:List R4 × Unit → Option (Nat × Nat × List R4 × Unit):=func cx126o Tryz.f126 b126o sh126o out126o
def e126o:FE:=⟨126,sh126o,out126o,F126o⟩
theorem ok126o:FEOK Tryz.prog e126o:=fk cx126o trivial [((.at (.loop (sub [1,1,0,1,0,0] b126o))),ce126o_1)] ⟨okc126o_1,trivial⟩
abbrev sh48o:Shape:=⟨[(0,.one (.d (.list r4)))],[]⟩
abbrev out48o:Shape:=⟨[(0,.one (.own 200000))],[(200000,.lst 100 r4 false)]⟩
noncomputable def b48o:Code:=Tryz.f48.body.getD .skip
noncomputable def cx48o:Cx:=⟨Tryz.prog,[],[0,1,2,3,4,5,6,7],8,[],[]⟩
def Fg48o:List R4 × Unit → Option (List R4 × Unit):=func cx48o Tryz.f48 b48o sh48o out48o
theorem okg48o:FEOK Tryz.prog ⟨48,sh48o,out48o,Fg48o⟩:=fk cx48o trivial [] trivial
def F48o:List R4 × Unit → Option (List R4 × Unit):=fun (x0,_) => bif Nat.ble (List.length x0) 1954687338268 then some (x0,()) else none
def e48o:FE:=⟨48,sh48o,out48o,F48o⟩
theorem Fg48o_eq (x0:List R4):Fg48o (x0,()) = bif List.isEmpty x0 then both (some ([],())) (bif decide (0 + List.length x0 ≤ 1954687338268) then some ([] ++ x0,()) else none) else (bif decide (0 + List.length x0 ≤ 1954687338268) then some ([] ++ x0,()) else none):=by kernel_rfl
theorem ok48o:FEOK Tryz.prog e48o:=by
 intro p r hr
 obtain ⟨x0,⟨⟩⟩:=p
 exact okg48o (x0,()) r (clone_ok (l:=x0) (Fg48o_eq x0) hr (fun h => by cases x0 with | nil => rfl | cons _ _ => cases h) rfl)
abbrev sh73:Shape:=⟨[(0,.one (.d (.list r4))),(1,.one (.fn 74))],[]⟩
abbrev out73:Shape:=⟨[(0,.one (.own 200000))],[(200000,.lst 100 r4 true)]⟩
noncomputable def b73:Code:=Tryz.f73.body.getD .skip
noncomputable def cx73:Cx:=⟨Tryz.prog,[e48o,e124,e125o,e126o],(List.range 14),14,[],[1200832]⟩
def F73:List R4 × Unit → Option (List R4 × Unit):=func cx73 Tryz.f73 b73 sh73 out73
def e73:FE:=⟨73,sh73,out73,F73⟩
theorem ok73:FEOK Tryz.prog e73:=fk cx73 ⟨ok48o,ok124,ok125o,ok126o,trivial⟩ [] trivial
abbrev sh42:Shape:=⟨[(0,.row [dS,.d (.list r0),.d (.list r0),.d (.list r4)])],[]⟩
abbrev out42:Shape:=⟨[(0,.row [dS,.own 200000,.own 200001,.own 200002])],[(200000,.lst 68 r0 true),(200001,.lst 68 r0 true),(200002,.lst 100 r4 true)]⟩
noncomputable def b42:Code:=Tryz.f42.body.getD .skip
noncomputable def cx42:Cx:=⟨Tryz.prog,[e71,e73],[],15,[],[]⟩
def F42:ByteArray × List R0 × List R0 × List R4 × Unit → Option (ByteArray × List R0 × List R0 × List R4 × Unit):=func cx42 Tryz.f42 b42 sh42 out42
def e42:FE:=⟨42,sh42,out42,F42⟩
theorem ok42:FEOK Tryz.prog e42:=fk cx42 ⟨ok71,ok73,trivial⟩ [] trivial
abbrev sh75:Shape:=⟨[(0,.row [.d (.list r2),.d (.list r3)]),(1,.row [dS,.d (.list r0),.d (.list r0),.d (.list r4)])],[]⟩
abbrev out75:Shape:=⟨[(0,.row [dS,.d (.list r0),.d (.list r0),.d (.list r4),.d (.list r2),.d (.list r3)])],[]⟩
noncomputable def b75:Code:=Tryz.f75.body.getD .skip
noncomputable def cx75:Cx:=⟨Tryz.prog,[],[],9,[],[]⟩
def F75:List R2 × List R3 × ByteArray × List R0 × List R0 × List R4 × Unit → Option (ByteArray × List R0 × List R0 × List R4 × List R2 × List R3 × Unit):=func cx75 Tryz.f75 b75 sh75 out75
def e75:FE:=⟨75,sh75,out75,F75⟩
theorem ok75:FEOK Tryz.prog e75:=fk cx75 trivial [] trivial
abbrev sh132:Shape:=⟨[(0,.row [dS,.d (.list r0),.d (.list r0),.d (.list r4),.d (.list r2),.d (.list r3)]),(1,oS)],[]⟩
abbrev out132:Shape:=⟨[(0,.row [dS,dS,dI,dI,dI,dS]),(1,oB)],[]⟩
noncomputable def b132:Code:=Tryz.f132.body.getD .skip
abbrev sh132_0:Shape:=⟨[(1,oS),(4,.one (.ptr 200000 0)),(10,.one (.d (.list r4))),(11,oI),(12,oI)],[(200000,.box 100 [dS,dS,dI,dI,dI,dS])]⟩
abbrev os132_0:List (XE × Shape):=[(.ret,⟨[(4,.one (.ptr 200000 0)),(5,oB)],[(200000,.box 100 [dS,dS,dI,dI,dI,dS])]⟩),(.ex 0,⟨[(4,.one (.ptr 200000 0))],[(200000,.box 100 [dS,dS,dI,dI,dI,dS])]⟩)]
noncomputable def cx132_0:Cx:=⟨Tryz.prog,[],[],23,[],[]⟩
def B132_0:Rnd (ByteArray × List R4 × Int × Int × ByteArray × ByteArray × Int × Int × Int × ByteArray × Unit) ((Bool × ByteArray × ByteArray × Int × Int × Int × ByteArray × Unit) ⊕ (ByteArray × ByteArray × Int × Int × Int × ByteArray × Unit)):=round cx132_0 (sub [1,0,1,0,0] b132) sh132_0 os132_0
def ce132_0:CE:=⟨sh132_0,os132_0,loop B132_0⟩
theorem okc132_0:CEOK Tryz.prog 23 (.at (.loop (sub [1,0,1,0,0] b132))) ce132_0:=ck cx132_0 trivial [] trivial
noncomputable def cx132:Cx:=⟨Tryz.prog,[],[],23,[(4,ce132_0)],[]⟩
def F132:ByteArray × List R0 × List R0 × List R4 × List R2 × List R3 × ByteArray × Unit → Option (ByteArray × ByteArray × Int × Int × Int × ByteArray × Bool × Unit):=func cx132 Tryz.f132 b132 sh132 out132
def e132:FE:=⟨132,sh132,out132,F132⟩
theorem ok132:FEOK Tryz.prog e132:=fk cx132 trivial [((.at (.loop (sub [1,0,1,0,0] b132))),ce132_0)] ⟨okc132_0,trivial⟩
abbrev sh291:Shape:=⟨[(0,.one (.d (.list r0))),(1,.row [dS,dI,dI,dI,dS])],[]⟩
abbrev out291:Shape:=⟨[(0,oI)],[]⟩
noncomputable def b291:Code:=Tryz.f291.body.getD .skip
abbrev sh291_0:Shape:=⟨[(0,.one (.d (.list r0))),(3,.one (.ptr 200000 0)),(7,oI),(8,oI)],[(200000,.box 68 [dS,dI,dI,dI,dS])]⟩
abbrev os291_0:List (XE × Shape):=[(.ret,⟨[(4,oI)],[]⟩),(.ex 0,⟨[],[]⟩)]
noncomputable def cx291_0:Cx:=⟨Tryz.prog,[],[],19,[],[]⟩
def B291_0:Rnd (List R0 × Int × Int × ByteArray × Int × Int × Int × ByteArray × Unit) ((Int × Unit) ⊕ (Unit)):=round cx291_0 (sub [1,0,1,0,0] b291) sh291_0 os291_0
def ce291_0:CE:=⟨sh291_0,os291_0,loop B291_0⟩
theorem okc291_0:CEOK Tryz.prog 19 (.at (.loop (sub [1,0,1,0,0] b291))) ce291_0:=ck cx291_0 trivial [] trivial
noncomputable def cx291:Cx:=⟨Tryz.prog,[],[],19,[(4,ce291_0)],[]⟩
def F291:List R0 × ByteArray × Int × Int × Int × ByteArray × Unit → Option (Int × Unit):=func cx291 Tryz.f291 b291 sh291 out291
def e291:FE:=⟨291,sh291,out291,F291⟩
theorem ok291:FEOK Tryz.prog e291:=fk cx291 trivial [((.at (.loop (sub [1,0,1,0,0] b291))),ce291_0)] ⟨okc291_0,trivial⟩
abbrev sh259:Shape:=⟨[(0,.one (.d (.list r0))),(1,.row [dS,dI,dI,dI,dS])],[]⟩
abbrev out259:Shape:=⟨[(0,oB)],[]⟩
noncomputable def b259:Code:=Tryz.f259.body.getD .skip
noncomputable def cx259:Cx:=⟨Tryz.prog,[e291],[],9,[],[]⟩
def F259:List R0 × ByteArray × Int × Int × Int × ByteArray × Unit → Option (Bool × Unit):=func cx259 Tryz.f259 b259 sh259 out259
def e259:FE:=⟨259,sh259,out259,F259⟩
theorem ok259:FEOK Tryz.prog e259:=fk cx259 ⟨ok291,trivial⟩ [] trivial
abbrev sh228:Shape:=⟨[(0,.row [dS,.d (.list r0),.d (.list r0),.d (.list r4),.d (.list r2),.d (.list r3)]),(1,.row [dS,dI,dI,dI,dS])],[]⟩
abbrev out228:Shape:=⟨[(0,oB)],[]⟩
noncomputable def b228:Code:=Tryz.f228.body.getD .skip
noncomputable def cx228:Cx:=⟨Tryz.prog,[e259],[],10,[],[]⟩
def F228:ByteArray × List R0 × List R0 × List R4 × List R2 × List R3 × ByteArray × Int × Int × Int × ByteArray × Unit → Option (Bool × Unit):=func cx228 Tryz.f228 b228 sh228 out228
def e228:FE:=⟨228,sh228,out228,F228⟩
theorem ok228:FEOK Tryz.prog e228:=fk cx228 ⟨ok259,trivial⟩ [] trivial
abbrev sh231:Shape:=⟨[(0,.row [dI,dI,dI,dS]),(1,.one (.ptr 100000 0)),(2,.one (.ptr 100001 0))],[(100000,.box 68 [dS,dI,dI,dI,dS]),(100001,.box 147 [dS,.d (.list r0),.d (.list r0),.d (.list r4),.d (.list r2),.d (.list r3)])]⟩
abbrev out231:Shape:=⟨[(0,oB)],[(100000,.box 68 [dS,dI,dI,dI,dS]),(100001,.box 147 [dS,.d (.list r0),.d (.list r0),.d (.list r4),.d (.list r2),.d (.list r3)])]⟩
noncomputable def b231:Code:=Tryz.f231.body.getD .skip
noncomputable def cx231:Cx:=⟨Tryz.prog,[e45,e228],[],19,[],[]⟩
def F231:Int × Int × Int × ByteArray × ByteArray × Int × Int × Int × ByteArray × ByteArray × List R0 × List R0 × List R4 × List R2 × List R3 × Unit → Option (Bool × ByteArray × Int × Int × Int × ByteArray × ByteArray × List R0 × List R0 × List R4 × List R2 × List R3 × Unit):=func cx231 Tryz.f231 b231 sh231 out231
def e231:FE:=⟨231,sh231,out231,F231⟩
theorem ok231:FEOK Tryz.prog e231:=fk cx231 ⟨ok45,ok228,trivial⟩ [] trivial
abbrev sh260:Shape:=⟨[(0,.one (.own 100000)),(1,.one (.clo 231 [some (100001,0),some (100002,0)]))],[(100000,.lst 47 r5 false),(100001,.box 68 [dS,dI,dI,dI,dS]),(100002,.box 147 [dS,.d (.list r0),.d (.list r0),.d (.list r4),.d (.list r2),.d (.list r3)])]⟩
abbrev out260:Shape:=⟨[(0,oI)],[(100000,.lst 47 r5 false),(100001,.box 68 [dS,dI,dI,dI,dS]),(100002,.box 147 [dS,.d (.list r0),.d (.list r0),.d (.list r4),.d (.list r2),.d (.list r3)])]⟩
noncomputable def b260:Code:=Tryz.f260.body.getD .skip
abbrev sh260_0:Shape:=⟨[(0,.one (.own 100000)),(1,.one (.clo 231 [some (100001,0),some (100002,0)])),(7,oI),(8,oI)],[(100000,.lst 47 r5 false),(100001,.box 68 [dS,dI,dI,dI,dS]),(100002,.box 147 [dS,.d (.list r0),.d (.list r0),.d (.list r4),.d (.list r2),.d (.list r3)])]⟩
abbrev os260_0:List (XE × Shape):=[(.ret,⟨[(4,oI)],[(100000,.lst 47 r5 false),(100001,.box 68 [dS,dI,dI,dI,dS]),(100002,.box 147 [dS,.d (.list r0),.d (.list r0),.d (.list r4),.d (.list r2),.d (.list r3)])]⟩),(.ex 0,⟨[],[(100000,.lst 47 r5 false),(100001,.box 68 [dS,dI,dI,dI,dS]),(100002,.box 147 [dS,.d (.list r0),.d (.list r0),.d (.list r4),.d (.list r2),.d (.list r3)])]⟩)]
noncomputable def cx260_0:Cx:=⟨Tryz.prog,[e231],[],19,[],[]⟩
def B260_0:Rnd (Int × Int × List R5 × ByteArray × Int × Int × Int × ByteArray × ByteArray × List R0 × List R0 × List R4 × List R2 × List R3 × Unit) ((Int × List R5 × ByteArray × Int × Int × Int × ByteArray × ByteArray × List R0 × List R0 × List R4 × List R2 × List R3 × Unit) ⊕ (List R5 × ByteArray × Int × Int × Int × ByteArray × ByteArray × List R0 × List R0 × List R4 × List R2 × List R3 × Unit)):=round cx260_0 (sub [1,0,1,0,0] b260) sh260_0 os260_0
def ce260_0:CE:=⟨sh260_0,os260_0,loop B260_0⟩
theorem okc260_0:CEOK Tryz.prog 19 (.at (.loop (sub [1,0,1,0,0] b260))) ce260_0:=ck cx260_0 ⟨ok231,trivial⟩ [] trivial
noncomputable def cx260:Cx:=⟨Tryz.prog,[e231],[],19,[(4,ce260_0)],[]⟩
def F260:List R5 × ByteArray × Int × Int × Int × ByteArray × ByteArray × List R0 × List R0 × List R4 × List R2 × List R3 × Unit → Option (Int × List R5 × ByteArray × Int × Int × Int × ByteArray × ByteArray × List R0 × List R0 × List R4 × List R2 × List R3 × Unit):=func cx260 Tryz.f260 b260 sh260 out260
def e260:FE:=⟨260,sh260,out260,F260⟩
theorem ok260:FEOK Tryz.prog e260:=fk cx260 ⟨ok231,trivial⟩ [((.at (.loop (sub [1,0,1,0,0] b260))),ce260_0)] ⟨okc260_0,trivial⟩
abbrev sh229:Shape:=⟨[(0,.one (.own 100000)),(1,.one (.clo 231 [some (100001,0),some (100002,0)]))],[(100000,.lst 47 r5 false),(100001,.box 68 [dS,dI,dI,dI,dS]),(100002,.box 147 [dS,.d (.list r0),.d (.list r0),.d (.list r4),.d (.list r2),.d (.list r3)])]⟩
abbrev out229:Shape:=⟨[(0,.one (.d (.list r5)))],[(100000,.lst 47 r5 true),(100001,.box 68 [dS,dI,dI,dI,dS]),(100002,.box 147 [dS,.d (.list r0),.d (.list r0),.d (.list r4),.d (.list r2),.d (.list r3)])]⟩
noncomputable def b229:Code:=Tryz.f229.body.getD .skip
abbrev sh229_0:Shape:=⟨[(0,.one (.own 100000)),(1,.one (.clo 231 [some (100001,0),some (100002,0)])),(5,oI),(6,oI)],[(100000,.lst 47 r5 false),(100001,.box 68 [dS,dI,dI,dI,dS]),(100002,.box 147 [dS,.d (.list r0),.d (.list r0),.d (.list r4),.d (.list r2),.d (.list r3)])]⟩
abbrev os229_0:List (XE × Shape):=[(.ex 0,⟨[(0,.one (.own 100000)),(5,oI)],[(100000,.lst 47 r5 false),(100001,.box 68 [dS,dI,dI,dI,dS]),(100002,.box 147 [dS,.d (.list r0),.d (.list r0),.d (.list r4),.d (.list r2),.d (.list r3)])]⟩)]
noncomputable def cx229_0:Cx:=⟨Tryz.prog,[e231,e260],[],42,[],[]⟩
def B229_0:Rnd (Int × Int × List R5 × ByteArray × Int × Int × Int × ByteArray × ByteArray × List R0 × List R0 × List R4 × List R2 × List R3 × Unit) (Int × List R5 × ByteArray × Int × Int × Int × ByteArray × ByteArray × List R0 × List R0 × List R4 × List R2 × List R3 × Unit):=round cx229_0 (sub [1,1,1,0,1,0,0] b229) sh229_0 os229_0
def ce229_0:CE:=⟨sh229_0,os229_0,loop B229_0⟩
theorem okc229_0:CEOK Tryz.prog 42 (.at (.loop (sub [1,1,1,0,1,0,0] b229))) ce229_0:=ck cx229_0 ⟨ok231,ok260,trivial⟩ [] trivial
noncomputable def cx229:Cx:=⟨Tryz.prog,[e231,e260],[],42,[(10,ce229_0)],[100000]⟩
def F229:List R5 × ByteArray × Int × Int × Int × ByteArray × ByteArray × List R0 × List R0 × List R4 × List R2 × List R3 × Unit → Option (List R5 × List R5 × ByteArray × Int × Int × Int × ByteArray × ByteArray × List R0 × List R0 × List R4 × List R2 × List R3 × Unit):=func cx229 Tryz.f229 b229 sh229 out229
def e229:FE:=⟨229,sh229,out229,F229⟩
theorem ok229:FEOK Tryz.prog e229:=fk cx229 ⟨ok231,ok260,trivial⟩ [((.at (.loop (sub [1,1,1,0,1,0,0] b229))),ce229_0)] ⟨okc229_0,trivial⟩
abbrev sh230:Shape:=⟨[(0,.row [.d (.list r2),.d (.list r3)]),(1,oS)],[]⟩
abbrev out230:Shape:=⟨[(0,.one (.own 200000))],[(200000,.lst 47 r5 false)]⟩
noncomputable def b230:Code:=Tryz.f230.body.getD .skip
abbrev sh230_0:Shape:=⟨[(7,.one (.own 200000)),(22,.one (.d (.list r1))),(23,oI),(24,oI)],[(200000,.lst 47 r5 false)]⟩
abbrev os230_0:List (XE × Shape):=[(.ex 0,⟨[(7,.one (.own 200000))],[(200000,.lst 47 r5 false)]⟩)]
noncomputable def cx230_0:Cx:=⟨Tryz.prog,[e203],(List.range 35),35,[],[]⟩
def B230_0:Rnd (List R1 × Int × Int × List R5 × Unit) (List R5 × Unit):=round cx230_0 (sub [1,1,1,0,1,0,0] b230) sh230_0 os230_0
def ce230_0:CE:=⟨sh230_0,os230_0,loop B230_0⟩
theorem okc230_0:CEOK Tryz.prog 35 (.at (.loop (sub [1,1,1,0,1,0,0] b230))) ce230_0:=ck cx230_0 ⟨ok203,trivial⟩ [] trivial
noncomputable def cx230:Cx:=⟨Tryz.prog,[e203],(List.range 35),35,[(8,ce230_0)],[]⟩
def F230:List R2 × List R3 × ByteArray × Unit → Option (List R5 × Unit):=func cx230 Tryz.f230 b230 sh230 out230
def e230:FE:=⟨230,sh230,out230,F230⟩
theorem ok230:FEOK Tryz.prog e230:=fk cx230 ⟨ok203,trivial⟩ [((.at (.loop (sub [1,1,1,0,1,0,0] b230))),ce230_0)] ⟨okc230_0,trivial⟩
abbrev sh261:Shape:=⟨[(0,.one (.d (.list r5))),(1,.one (.fn 45))],[]⟩
abbrev out261:Shape:=⟨[(0,.row [dI,dI,dI,dS])],[]⟩
noncomputable def b261:Code:=Tryz.f261.body.getD .skip
abbrev sh261_0:Shape:=⟨[(0,.one (.d (.list r5))),(1,.one (.fn 45)),(4,.one (.ptr 200000 0)),(5,.one (.ptr 200001 0)),(6,oI)],[(200000,.box 47 [dI,dI,dI,dS]),(200001,.box 47 [dI,dI,dI,dS])]⟩
abbrev os261_0:List (XE × Shape):=[(.ex 0,⟨[(4,.one (.ptr 200000 0)),(5,.one (.ptr 200001 0))],[(200000,.box 47 [dI,dI,dI,dS]),(200001,.box 47 [dI,dI,dI,dS])]⟩)]
noncomputable def cx261_0:Cx:=⟨Tryz.prog,[e45],[],33,[],[]⟩
def B261_0:Rnd (List R5 × Int × Int × Int × Int × ByteArray × Int × Int × Int × ByteArray × Unit) (Int × Int × Int × ByteArray × Int × Int × Int × ByteArray × Unit):=round cx261_0 (sub [1,1,1,0,1,0,0] b261) sh261_0 os261_0
def ce261_0:CE:=⟨sh261_0,os261_0,loop B261_0⟩
theorem okc261_0:CEOK Tryz.prog 33 (.at (.loop (sub [1,1,1,0,1,0,0] b261))) ce261_0:=ck cx261_0 ⟨ok45,trivial⟩ [] trivial
noncomputable def cx261:Cx:=⟨Tryz.prog,[e45],[],33,[(10,ce261_0)],[]⟩
def F261:List R5 × Unit → Option (Int × Int × Int × ByteArray × Unit):=func cx261 Tryz.f261 b261 sh261 out261
def e261:FE:=⟨261,sh261,out261,F261⟩
theorem ok261:FEOK Tryz.prog e261:=fk cx261 ⟨ok45,trivial⟩ [((.at (.loop (sub [1,1,1,0,1,0,0] b261))),ce261_0)] ⟨okc261_0,trivial⟩
abbrev sh232:Shape:=⟨[(0,.one (.d (.list r5)))],[]⟩
abbrev out232:Shape:=⟨[(0,.row [dI,dI,dI,dS])],[]⟩
noncomputable def b232:Code:=Tryz.f232.body.getD .skip
noncomputable def cx232:Cx:=⟨Tryz.prog,[e261],[],9,[],[]⟩
def F232:List R5 × Unit → Option (Int × Int × Int × ByteArray × Unit):=func cx232 Tryz.f232 b232 sh232 out232
def e232:FE:=⟨232,sh232,out232,F232⟩
theorem ok232:FEOK Tryz.prog e232:=fk cx232 ⟨ok261,trivial⟩ [] trivial
abbrev sh183:Shape:=⟨[(0,.row [dS,.d (.list r0),.d (.list r0),.d (.list r4),.d (.list r2),.d (.list r3)]),(1,.row [dS,dI,dI,dI,dS])],[]⟩
abbrev out183:Shape:=⟨[(0,.row [dS,dI,dI,dI,dS]),(1,oB),(2,oI)],[]⟩
noncomputable def b183:Code:=Tryz.f183.body.getD .skip
noncomputable def cx183:Cx:=⟨Tryz.prog,[e94,e132,e228,e229,e230,e232],[],67,[],[]⟩
def F183:ByteArray × List R0 × List R0 × List R4 × List R2 × List R3 × ByteArray × Int × Int × Int × ByteArray × Unit → Option (ByteArray × Int × Int × Int × ByteArray × Bool × Int × Unit):=func cx183 Tryz.f183 b183 sh183 out183
def e183:FE:=⟨183,sh183,out183,F183⟩
theorem ok183:FEOK Tryz.prog e183:=fk cx183 ⟨ok94,ok132,ok228,ok229,ok230,ok232,trivial⟩ [] trivial
abbrev sh127:Shape:=⟨[(0,.row [dS,.d (.list r0),.d (.list r0),.d (.list r4),.d (.list r2),.d (.list r3)]),(1,.one (.d (.list r0)))],[]⟩
abbrev out127:Shape:=⟨[(0,.one (.own 200000)),(1,oI)],[(200000,.lst 68 r0 false)]⟩
noncomputable def b127:Code:=Tryz.f127.body.getD .skip
abbrev sh127_0:Shape:=⟨[(2,.one (.ptr 200000 0)),(6,.one (.own 200001)),(12,.one (.d (.list r0))),(13,oI),(14,oI)],[(200000,.box 147 [dS,.d (.list r0),.d (.list r0),.d (.list r4),.d (.list r2),.d (.list r3)]),(200001,.lst 68 r0 false)]⟩
abbrev os127_0:List (XE × Shape):=[(.ret,⟨[(4,.one (.nilS)),(5,oI)],[]⟩),(.ex 0,⟨[(6,.one (.own 200000))],[(200000,.lst 68 r0 false)]⟩)]
noncomputable def cx127_0:Cx:=⟨Tryz.prog,[e183],(List.range 35),35,[],[]⟩
def B127_0:Rnd (List R0 × Int × Int × ByteArray × List R0 × List R0 × List R4 × List R2 × List R3 × List R0 × Unit) ((Int × Unit) ⊕ (List R0 × Unit)):=round cx127_0 (sub [1,1,0,1,0,0] b127) sh127_0 os127_0
def ce127_0:CE:=⟨sh127_0,os127_0,loop B127_0⟩
theorem okc127_0:CEOK Tryz.prog 35 (.at (.loop (sub [1,1,0,1,0,0] b127))) ce127_0:=ck cx127_0 ⟨ok183,trivial⟩ [] trivial
noncomputable def cx127:Cx:=⟨Tryz.prog,[e183],(List.range 35),35,[(6,ce127_0)],[]⟩
def F127:ByteArray × List R0 × List R0 × List R4 × List R2 × List R3 × List R0 × Unit → Option (Int × List R0 × Unit):=func cx127 Tryz.f127 b127 sh127 out127
def e127:FE:=⟨127,sh127,out127,F127⟩
theorem ok127:FEOK Tryz.prog e127:=fk cx127 ⟨ok183,trivial⟩ [((.at (.loop (sub [1,1,0,1,0,0] b127))),ce127_0)] ⟨okc127_0,trivial⟩
abbrev sh121:Shape:=⟨[(0,.one (.d (.list r0)))],[]⟩
abbrev out121:Shape:=⟨[(0,.one (.d (.list r0)))],[]⟩
noncomputable def b121:Code:=Tryz.f121.body.getD .skip
noncomputable def cx121:Cx:=⟨Tryz.prog,[],[],9,[],[]⟩
def F121:List R0 × Unit → Option (List R0 × Unit):=func cx121 Tryz.f121 b121 sh121 out121
def e121:FE:=⟨121,sh121,out121,F121⟩
theorem ok121:FEOK Tryz.prog e121:=fk cx121 trivial [] trivial
abbrev sh122:Shape:=⟨[(0,.one (.own 100000))],[(100000,.lst 68 r0 false)]⟩
abbrev out122:Shape:=⟨[(0,.one (.d (.list r0)))],[(100000,.lst 68 r0 true)]⟩
noncomputable def b122:Code:=Tryz.f122.body.getD .skip
abbrev sh122_0:Shape:=⟨[(0,.one (.own 100000)),(3,oI),(4,.one (.os 100000 5)),(5,oI)],[(100000,.lst 68 r0 false)]⟩
abbrev os122_0:List (XE × Shape):=[(.ex 2,⟨[(0,.one (.own 100000)),(3,oI)],[(100000,.lst 68 r0 false)]⟩)]
noncomputable def cx122_0:Cx:=⟨Tryz.prog,[],[],61,[],[]⟩
def B122_0:Rnd (Int × Nat × Nat × Int × List R0 × Unit) (Int × List R0 × Unit):=round cx122_0 (sub [1,1,0,1,0,0,1,0,0,1,0,1,0,1,0,0] b122) sh122_0 os122_0
def ce122_0:CE:=⟨sh122_0,os122_0,loop B122_0⟩
theorem okc122_0:CEOK Tryz.prog 61 (.at (.loop (sub [1,1,0,1,0,0,1,0,0,1,0,1,0,1,0,0] b122))) ce122_0:=ck cx122_0 trivial [] trivial
abbrev sh122_1:Shape:=⟨[(0,.one (.own 100000)),(3,oI)],[(100000,.lst 68 r0 false)]⟩
abbrev os122_1:List (XE × Shape):=[(.ret,⟨[(2,.one (.os 100000 5))],[(100000,.lst 68 r0 false)]⟩),(.ex 0,⟨[(0,.one (.own 100000))],[(100000,.lst 68 r0 false)]⟩)]
noncomputable def cx122_1:Cx:=⟨Tryz.prog,[],[],61,[(18,ce122_0)],[]⟩
def B122_1:Rnd (Int × List R0 × Unit) ((Nat × Nat × List R0 × Unit) ⊕ (List R0 × Unit)):=round cx122_1 (sub [1,1,0,1,0,0] b122) sh122_1 os122_1
def ce122_1:CE:=⟨sh122_1,os122_1,loop B122_1⟩
theorem okc122_1:CEOK Tryz.prog 61 (.at (.loop (sub [1,1,0,1,0,0] b122))) ce122_1:=ck cx122_1 trivial [((.at (.loop (sub [1,1,0,1,0,0,1,0,0,1,0,1,0,1,0,0] b122))),ce122_0)] ⟨okc122_0,trivial⟩
noncomputable def cx122:Cx:=⟨Tryz.prog,[],[],61,[(18,ce122_0),(8,ce122_1)],[100000]⟩
def F122:List R0 × Unit → Option (List R0 × List R0 × Unit):=func cx122 Tryz.f122 b122 sh122 out122
def e122:FE:=⟨122,sh122,out122,F122⟩
theorem ok122:FEOK Tryz.prog e122:=fk cx122 trivial [((.at (.loop (sub [1,1,0,1,0,0] b122))),ce122_1)] ⟨okc122_1,trivial⟩
abbrev sh131:Shape:=⟨[(0,.row [dS,dI,dI,dI,dS]),(1,.row [dS,dI,dI,dI,dS])],[]⟩
abbrev out131:Shape:=⟨[(0,oI)],[]⟩
noncomputable def b131:Code:=Tryz.f131.body.getD .skip
noncomputable def cx131:Cx:=⟨Tryz.prog,[e36,e45],[],19,[],[]⟩
def F131:ByteArray × Int × Int × Int × ByteArray × ByteArray × Int × Int × Int × ByteArray × Unit → Option (Int × Unit):=func cx131 Tryz.f131 b131 sh131 out131
def e131:FE:=⟨131,sh131,out131,F131⟩
theorem ok131:FEOK Tryz.prog e131:=fk cx131 ⟨ok36,ok45,trivial⟩ [] trivial
abbrev sh130:Shape:=⟨[(0,.one (.d (.list r0)))],[]⟩
abbrev out130:Shape:=⟨[(0,.one (.clo 186 [some (200000,0)]))],[(200000,.box 57 [.d (.list r0)])]⟩
noncomputable def b130:Code:=Tryz.f130.body.getD .skip
noncomputable def cx130:Cx:=⟨Tryz.prog,[],[],4,[],[]⟩
def F130:List R0 × Unit → Option (List R0 × Unit):=func cx130 Tryz.f130 b130 sh130 out130
def e130:FE:=⟨130,sh130,out130,F130⟩
theorem ok130:FEOK Tryz.prog e130:=fk cx130 trivial [] trivial
abbrev sh133:Shape:=⟨[(0,.one (.d (.list r6)))],[]⟩
abbrev out133:Shape:=⟨[(0,.one (.d (.list r6)))],[]⟩
noncomputable def b133:Code:=Tryz.f133.body.getD .skip
noncomputable def cx133:Cx:=⟨Tryz.prog,[],[],8,[],[]⟩
def Fg133:List R6 × Unit → Option (List R6 × Unit):=func cx133 Tryz.f133 b133 sh133 out133
theorem okg133:FEOK Tryz.prog ⟨133,sh133,out133,Fg133⟩:=fk cx133 trivial [] trivial
def F133:List R6 × Unit → Option (List R6 × Unit):=fun (x0,_) => bif Nat.ble (List.length x0) 1256584717458 then some (x0,()) else none
def e133:FE:=⟨133,sh133,out133,F133⟩
theorem Fg133_eq (x0:List R6):Fg133 (x0,()) = bif List.isEmpty x0 then both (some ([],())) (bif decide (0 + List.length x0 ≤ 1256584717458) then some ([] ++ x0,()) else none) else (bif decide (0 + List.length x0 ≤ 1256584717458) then some ([] ++ x0,()) else none):=by kernel_rfl
theorem ok133:FEOK Tryz.prog e133:=by
 intro p r hr
 obtain ⟨x0,⟨⟩⟩:=p
 exact okg133 (x0,()) r (clone_ok (l:=x0) (Fg133_eq x0) hr (fun h => by cases x0 with | nil => rfl | cons _ _ => cases h) rfl)
abbrev sh44:Shape:=⟨[(0,.one (.d (.list r6))),(1,oS)],[]⟩
abbrev out44:Shape:=⟨[(0,.row [dS,dI,dI,dI,dS,dS,dI,dI,dI,dS]),(1,oB)],[]⟩
noncomputable def b44:Code:=Tryz.f44.body.getD .skip
abbrev sh44_0:Shape:=⟨[(1,oS),(4,.one (.ptr 200000 0)),(8,.one (.d (.list r6))),(9,oI),(10,oI)],[(200000,.box 105 [dS,dI,dI,dI,dS,dS,dI,dI,dI,dS])]⟩
abbrev os44_0:List (XE × Shape):=[(.ret,⟨[(4,.one (.ptr 200000 0)),(5,oB)],[(200000,.box 105 [dS,dI,dI,dI,dS,dS,dI,dI,dI,dS])]⟩),(.ex 0,⟨[(4,.one (.ptr 200000 0))],[(200000,.box 105 [dS,dI,dI,dI,dS,dS,dI,dI,dI,dS])]⟩)]
noncomputable def cx44_0:Cx:=⟨Tryz.prog,[],[],21,[],[]⟩
def B44_0:Rnd (ByteArray × List R6 × Int × Int × ByteArray × Int × Int × Int × ByteArray × ByteArray × Int × Int × Int × ByteArray × Unit) ((Bool × ByteArray × Int × Int × Int × ByteArray × ByteArray × Int × Int × Int × ByteArray × Unit) ⊕ (ByteArray × Int × Int × Int × ByteArray × ByteArray × Int × Int × Int × ByteArray × Unit)):=round cx44_0 (sub [1,0,1,0,0] b44) sh44_0 os44_0
def ce44_0:CE:=⟨sh44_0,os44_0,loop B44_0⟩
theorem okc44_0:CEOK Tryz.prog 21 (.at (.loop (sub [1,0,1,0,0] b44))) ce44_0:=ck cx44_0 trivial [] trivial
noncomputable def cx44:Cx:=⟨Tryz.prog,[],[],21,[(4,ce44_0)],[]⟩
def F44:List R6 × ByteArray × Unit → Option (ByteArray × Int × Int × Int × ByteArray × ByteArray × Int × Int × Int × ByteArray × Bool × Unit):=func cx44 Tryz.f44 b44 sh44 out44
def e44:FE:=⟨44,sh44,out44,F44⟩
theorem ok44:FEOK Tryz.prog e44:=fk cx44 trivial [((.at (.loop (sub [1,0,1,0,0] b44))),ce44_0)] ⟨okc44_0,trivial⟩
abbrev sh48:Shape:=⟨[(0,.one (.d (.list r4)))],[]⟩
abbrev out48:Shape:=⟨[(0,.one (.d (.list r4)))],[]⟩
noncomputable def b48:Code:=Tryz.f48.body.getD .skip
noncomputable def cx48:Cx:=⟨Tryz.prog,[],[],8,[],[]⟩
def Fg48:List R4 × Unit → Option (List R4 × Unit):=func cx48 Tryz.f48 b48 sh48 out48
theorem okg48:FEOK Tryz.prog ⟨48,sh48,out48,Fg48⟩:=fk cx48 trivial [] trivial
def F48:List R4 × Unit → Option (List R4 × Unit):=fun (x0,_) => bif Nat.ble (List.length x0) 1954687338268 then some (x0,()) else none
def e48:FE:=⟨48,sh48,out48,F48⟩
theorem Fg48_eq (x0:List R4):Fg48 (x0,()) = bif List.isEmpty x0 then both (some ([],())) (bif decide (0 + List.length x0 ≤ 1954687338268) then some ([] ++ x0,()) else none) else (bif decide (0 + List.length x0 ≤ 1954687338268) then some ([] ++ x0,()) else none):=by kernel_rfl
theorem ok48:FEOK Tryz.prog e48:=by
 intro p r hr
 obtain ⟨x0,⟨⟩⟩:=p
 exact okg48 (x0,()) r (clone_ok (l:=x0) (Fg48_eq x0) hr (fun h => by cases x0 with | nil => rfl | cons _ _ => cases h) rfl)
abbrev sh56:Shape:=⟨[(0,.row [dS,dI,dI,dI,dS,dS,dI,dI,dI,dS]),(1,.one (.ptr 100000 0))],[(100000,.box 102 [.d (.list r6)])]⟩
abbrev out56:Shape:=⟨[(0,oB)],[(100000,.box 102 [.d (.list r6)])]⟩
noncomputable def b56:Code:=Tryz.f56.body.getD .skip
noncomputable def cx56:Cx:=⟨Tryz.prog,[e44],[],41,[],[]⟩
def F56:ByteArray × Int × Int × Int × ByteArray × ByteArray × Int × Int × Int × ByteArray × List R6 × Unit → Option (Bool × List R6 × Unit):=func cx56 Tryz.f56 b56 sh56 out56
def e56:FE:=⟨56,sh56,out56,F56⟩
theorem ok56:FEOK Tryz.prog e56:=fk cx56 ⟨ok44,trivial⟩ [] trivial
abbrev sh84:Shape:=⟨[(0,.one (.d (.list r6))),(1,.one (.clo 56 [some (100000,0)]))],[(100000,.box 102 [.d (.list r6)])]⟩
abbrev out84:Shape:=⟨[(0,oI)],[(100000,.box 102 [.d (.list r6)])]⟩
noncomputable def b84:Code:=Tryz.f84.body.getD .skip
abbrev sh84_0:Shape:=⟨[(0,.one (.d (.list r6))),(1,.one (.clo 56 [some (100000,0)])),(7,oI),(8,oI)],[(100000,.box 102 [.d (.list r6)])]⟩
abbrev os84_0:List (XE × Shape):=[(.ret,⟨[(4,oI)],[(100000,.box 102 [.d (.list r6)])]⟩),(.ex 0,⟨[],[(100000,.box 102 [.d (.list r6)])]⟩)]
noncomputable def cx84_0:Cx:=⟨Tryz.prog,[e56],[],19,[],[]⟩
def B84_0:Rnd (List R6 × Int × Int × List R6 × Unit) ((Int × List R6 × Unit) ⊕ (List R6 × Unit)):=round cx84_0 (sub [1,0,1,0,0] b84) sh84_0 os84_0
def ce84_0:CE:=⟨sh84_0,os84_0,loop B84_0⟩
theorem okc84_0:CEOK Tryz.prog 19 (.at (.loop (sub [1,0,1,0,0] b84))) ce84_0:=ck cx84_0 ⟨ok56,trivial⟩ [] trivial
noncomputable def cx84:Cx:=⟨Tryz.prog,[e56],[],19,[(4,ce84_0)],[]⟩
def F84:List R6 × List R6 × Unit → Option (Int × List R6 × Unit):=func cx84 Tryz.f84 b84 sh84 out84
def e84:FE:=⟨84,sh84,out84,F84⟩
theorem ok84:FEOK Tryz.prog e84:=fk cx84 ⟨ok56,trivial⟩ [((.at (.loop (sub [1,0,1,0,0] b84))),ce84_0)] ⟨okc84_0,trivial⟩
abbrev sh55:Shape:=⟨[(0,.one (.d (.list r6))),(1,.one (.clo 56 [some (100000,0)]))],[(100000,.box 102 [.d (.list r6)])]⟩
abbrev out55:Shape:=⟨[(0,oB)],[(100000,.box 102 [.d (.list r6)])]⟩
noncomputable def b55:Code:=Tryz.f55.body.getD .skip
noncomputable def cx55:Cx:=⟨Tryz.prog,[e84],[],9,[],[]⟩
def F55:List R6 × List R6 × Unit → Option (Bool × List R6 × Unit):=func cx55 Tryz.f55 b55 sh55 out55
def e55:FE:=⟨55,sh55,out55,F55⟩
theorem ok55:FEOK Tryz.prog e55:=fk cx55 ⟨ok84,trivial⟩ [] trivial
abbrev sh50:Shape:=⟨[(0,.one (.ptr 100000 0))],[(100000,.box 71 [dS,.d (.list r0),.d (.list r0),.d (.list r4)])]⟩
abbrev out50:Shape:=⟨[(0,.one (.ptr 100000 1))],[(100000,.box 71 [dS,.d (.list r0),.d (.list r0),.d (.list r4)])]⟩
noncomputable def b50:Code:=Tryz.f50.body.getD .skip
noncomputable def cx50:Cx:=⟨Tryz.prog,[],[],6,[],[]⟩
def F50:ByteArray × List R0 × List R0 × List R4 × Unit → Option (ByteArray × List R0 × List R0 × List R4 × Unit):=func cx50 Tryz.f50 b50 sh50 out50
def e50:FE:=⟨50,sh50,out50,F50⟩
theorem ok50:FEOK Tryz.prog e50:=fk cx50 trivial [] trivial
abbrev sh190:Shape:=⟨[(0,.one (.nilS)),(1,oI)],[]⟩
abbrev out190:Shape:=⟨[(0,.one (.own 200000))],[(200000,.lst 68 r0 false)]⟩
noncomputable def b190:Code:=Tryz.f190.body.getD .skip
noncomputable def cx190:Cx:=⟨Tryz.prog,[],[22,100020,100025],27,[],[]⟩
def F190:Int × Unit → Option (List R0 × Unit):=func cx190 Tryz.f190 b190 sh190 out190
def e190:FE:=⟨190,sh190,out190,F190⟩
theorem ok190:FEOK Tryz.prog e190:=fk cx190 trivial [] trivial
abbrev sh138:Shape:=⟨[(0,.one (.d (.list (.list r0))))],[]⟩
abbrev out138:Shape:=⟨[(0,.one (.own 200000))],[(200000,.lst 68 r0 false)]⟩
noncomputable def b138:Code:=Tryz.f138.body.getD .skip
abbrev sh138_0:Shape:=⟨[(0,.one (.d (.list (.list r0)))),(3,oI),(9,.one (.d (.list (.list r0)))),(10,oI),(11,oI)],[]⟩
abbrev os138_0:List (XE × Shape):=[(.ex 0,⟨[(0,.one (.d (.list (.list r0)))),(3,oI)],[]⟩)]
noncomputable def cx138_0:Cx:=⟨Tryz.prog,[e190],(List.range 36),36,[],[]⟩
def B138_0:Rnd (List (List R0) × Int × List (List R0) × Int × Int × Unit) (List (List R0) × Int × Unit):=round cx138_0 (sub [1,1,0,1,0,0] b138) sh138_0 os138_0
def ce138_0:CE:=⟨sh138_0,os138_0,loop B138_0⟩
theorem okc138_0:CEOK Tryz.prog 36 (.at (.loop (sub [1,1,0,1,0,0] b138))) ce138_0:=ck cx138_0 ⟨ok190,trivial⟩ [] trivial
abbrev sh138_1:Shape:=⟨[(6,.one (.own 200000)),(25,.one (.d (.list (.list r0)))),(26,oI),(27,oI)],[(200000,.lst 68 r0 false)]⟩
abbrev os138_1:List (XE × Shape):=[(.ex 2,⟨[(6,.one (.own 200000))],[(200000,.lst 68 r0 false)]⟩)]
noncomputable def cx138_1:Cx:=⟨Tryz.prog,[e190],(List.range 36),36,[(6,ce138_0)],[]⟩
def B138_1:Rnd (List (List R0) × Int × Int × List R0 × Unit) (List R0 × Unit):=round cx138_1 (sub [1,1,1,1,0,1,0,0] b138) sh138_1 os138_1
def ce138_1:CE:=⟨sh138_1,os138_1,loop B138_1⟩
theorem okc138_1:CEOK Tryz.prog 36 (.at (.loop (sub [1,1,1,1,0,1,0,0] b138))) ce138_1:=ck cx138_1 ⟨ok190,trivial⟩ [] trivial
noncomputable def cx138:Cx:=⟨Tryz.prog,[e190],(List.range 36),36,[(6,ce138_0),(22,ce138_1)],[]⟩
def F138:List (List R0) × Unit → Option (List R0 × Unit):=func cx138 Tryz.f138 b138 sh138 out138
def e138:FE:=⟨138,sh138,out138,F138⟩
theorem ok138:FEOK Tryz.prog e138:=fk cx138 ⟨ok190,trivial⟩ [((.at (.loop (sub [1,1,0,1,0,0] b138))),ce138_0),((.at (.loop (sub [1,1,1,1,0,1,0,0] b138))),ce138_1)] ⟨okc138_0,okc138_1,trivial⟩
abbrev sh81:Shape:=⟨[(0,.one (.d (.list r0))),(1,oI)],[]⟩
abbrev out81:Shape:=⟨[(0,.one (.d (.list r0)))],[]⟩
noncomputable def b81:Code:=Tryz.f81.body.getD .skip
noncomputable def cx81:Cx:=⟨Tryz.prog,[e138],[],14,[],[1200832]⟩
def F81:List R0 × Int × Unit → Option (List R0 × Unit):=func cx81 Tryz.f81 b81 sh81 out81
def e81:FE:=⟨81,sh81,out81,F81⟩
theorem ok81:FEOK Tryz.prog e81:=fk cx81 ⟨ok138,trivial⟩ [] trivial
abbrev sh51:Shape:=⟨[(0,.one (.ptr 100000 0))],[(100000,.box 71 [dS,.d (.list r0),.d (.list r0),.d (.list r4)])]⟩
abbrev out51:Shape:=⟨[(0,.one (.ptr 100000 2))],[(100000,.box 71 [dS,.d (.list r0),.d (.list r0),.d (.list r4)])]⟩
noncomputable def b51:Code:=Tryz.f51.body.getD .skip
noncomputable def cx51:Cx:=⟨Tryz.prog,[],[],6,[],[]⟩
def F51:ByteArray × List R0 × List R0 × List R4 × Unit → Option (ByteArray × List R0 × List R0 × List R4 × Unit):=func cx51 Tryz.f51 b51 sh51 out51
def e51:FE:=⟨51,sh51,out51,F51⟩
theorem ok51:FEOK Tryz.prog e51:=fk cx51 trivial [] trivial
abbrev sh53:Shape:=⟨[(0,.one (.ptr 100000 0))],[(100000,.box 71 [dS,.d (.list r0),.d (.list r0),.d (.list r4)])]⟩
abbrev out53:Shape:=⟨[(0,.one (.ptr 100000 3))],[(100000,.box 71 [dS,.d (.list r0),.d (.list r0),.d (.list r4)])]⟩
noncomputable def b53:Code:=Tryz.f53.body.getD .skip
noncomputable def cx53:Cx:=⟨Tryz.prog,[],[],6,[],[]⟩
def F53:ByteArray × List R0 × List R0 × List R4 × Unit → Option (ByteArray × List R0 × List R0 × List R4 × Unit):=func cx53 Tryz.f53 b53 sh53 out53
def e53:FE:=⟨53,sh53,out53,F53⟩
theorem ok53:FEOK Tryz.prog e53:=fk cx53 trivial [] trivial
abbrev sh191:Shape:=⟨[(0,.one (.nilS)),(1,oI)],[]⟩
abbrev out191:Shape:=⟨[(0,.one (.own 200000))],[(200000,.lst 100 r4 false)]⟩
noncomputable def b191:Code:=Tryz.f191.body.getD .skip
noncomputable def cx191:Cx:=⟨Tryz.prog,[],[22,100020,100025],27,[],[]⟩
def F191:Int × Unit → Option (List R4 × Unit):=func cx191 Tryz.f191 b191 sh191 out191
def e191:FE:=⟨191,sh191,out191,F191⟩
theorem ok191:FEOK Tryz.prog e191:=fk cx191 trivial [] trivial
abbrev sh139:Shape:=⟨[(0,.one (.d (.list (.list r4))))],[]⟩
abbrev out139:Shape:=⟨[(0,.one (.own 200000))],[(200000,.lst 100 r4 false)]⟩
noncomputable def b139:Code:=Tryz.f139.body.getD .skip
abbrev sh139_0:Shape:=⟨[(0,.one (.d (.list (.list r4)))),(3,oI),(9,.one (.d (.list (.list r4)))),(10,oI),(11,oI)],[]⟩
abbrev os139_0:List (XE × Shape):=[(.ex 0,⟨[(0,.one (.d (.list (.list r4)))),(3,oI)],[]⟩)]
noncomputable def cx139_0:Cx:=⟨Tryz.prog,[e191],(List.range 36),36,[],[]⟩
def B139_0:Rnd (List (List R4) × Int × List (List R4) × Int × Int × Unit) (List (List R4) × Int × Unit):=round cx139_0 (sub [1,1,0,1,0,0] b139) sh139_0 os139_0
def ce139_0:CE:=⟨sh139_0,os139_0,loop B139_0⟩
theorem okc139_0:CEOK Tryz.prog 36 (.at (.loop (sub [1,1,0,1,0,0] b139))) ce139_0:=ck cx139_0 ⟨ok191,trivial⟩ [] trivial
abbrev sh139_1:Shape:=⟨[(6,.one (.own 200000)),(25,.one (.d (.list (.list r4)))),(26,oI),(27,oI)],[(200000,.lst 100 r4 false)]⟩
abbrev os139_1:List (XE × Shape):=[(.ex 2,⟨[(6,.one (.own 200000))],[(200000,.lst 100 r4 false)]⟩)]
noncomputable def cx139_1:Cx:=⟨Tryz.prog,[e191],(List.range 36),36,[(6,ce139_0)],[]⟩
def B139_1:Rnd (List (List R4) × Int × Int × List R4 × Unit) (List R4 × Unit):=round cx139_1 (sub [1,1,1,1,0,1,0,0] b139) sh139_1 os139_1
def ce139_1:CE:=⟨sh139_1,os139_1,loop B139_1⟩
theorem okc139_1:CEOK Tryz.prog 36 (.at (.loop (sub [1,1,1,1,0,1,0,0] b139))) ce139_1:=ck cx139_1 ⟨ok191,trivial⟩ [] trivial
noncomputable def cx139:Cx:=⟨Tryz.prog,[e191],(List.range 36),36,[(6,ce139_0),(22,ce139_1)],[]⟩
def F139:List (List R4) × Unit → Option (List R4 × Unit):=func cx139 Tryz.f139 b139 sh139 out139
def e139:FE:=⟨139,sh139,out139,F139⟩
theorem ok139:FEOK Tryz.prog e139:=fk cx139 ⟨ok191,trivial⟩ [((.at (.loop (sub [1,1,0,1,0,0] b139))),ce139_0),((.at (.loop (sub [1,1,1,1,0,1,0,0] b139))),ce139_1)] ⟨okc139_0,okc139_1,trivial⟩
abbrev sh82:Shape:=⟨[(0,.one (.d (.list r4))),(1,oI)],[]⟩
abbrev out82:Shape:=⟨[(0,.one (.d (.list r4)))],[]⟩
noncomputable def b82:Code:=Tryz.f82.body.getD .skip
noncomputable def cx82:Cx:=⟨Tryz.prog,[e139],[],14,[],[1200832]⟩
def F82:List R4 × Int × Unit → Option (List R4 × Unit):=func cx82 Tryz.f82 b82 sh82 out82
def e82:FE:=⟨82,sh82,out82,F82⟩
theorem ok82:FEOK Tryz.prog e82:=fk cx82 ⟨ok139,trivial⟩ [] trivial
abbrev sh140:Shape:=⟨[(0,.one (.d (.list .bool))),(1,oB)],[]⟩
abbrev out140:Shape:=⟨[(0,oI)],[]⟩
noncomputable def b140:Code:=Tryz.f140.body.getD .skip
abbrev sh140_0:Shape:=⟨[(0,.one (.d (.list .bool))),(1,oB),(7,oI),(8,oI)],[]⟩
abbrev os140_0:List (XE × Shape):=[(.ret,⟨[(4,oI)],[]⟩),(.ex 0,⟨[],[]⟩)]
noncomputable def cx140_0:Cx:=⟨Tryz.prog,[],[],19,[],[]⟩
def B140_0:Rnd (List Bool × Bool × Int × Int × Unit) ((Int × Unit) ⊕ (Unit)):=round cx140_0 (sub [1,0,1,0,0] b140) sh140_0 os140_0
def ce140_0:CE:=⟨sh140_0,os140_0,loop B140_0⟩
theorem okc140_0:CEOK Tryz.prog 19 (.at (.loop (sub [1,0,1,0,0] b140))) ce140_0:=ck cx140_0 trivial [] trivial
noncomputable def cx140:Cx:=⟨Tryz.prog,[],[],19,[(4,ce140_0)],[]⟩
def F140:List Bool × Bool × Unit → Option (Int × Unit):=func cx140 Tryz.f140 b140 sh140 out140
def e140:FE:=⟨140,sh140,out140,F140⟩
theorem ok140:FEOK Tryz.prog e140:=fk cx140 trivial [((.at (.loop (sub [1,0,1,0,0] b140))),ce140_0)] ⟨okc140_0,trivial⟩
abbrev sh83:Shape:=⟨[(0,.one (.d (.list .bool))),(1,oB)],[]⟩
abbrev out83:Shape:=⟨[(0,oB)],[]⟩
noncomputable def b83:Code:=Tryz.f83.body.getD .skip
noncomputable def cx83:Cx:=⟨Tryz.prog,[e140],[],9,[],[]⟩
def F83:List Bool × Bool × Unit → Option (Bool × Unit):=func cx83 Tryz.f83 b83 sh83 out83
def e83:FE:=⟨83,sh83,out83,F83⟩
theorem ok83:FEOK Tryz.prog e83:=fk cx83 ⟨ok140,trivial⟩ [] trivial
abbrev sh54:Shape:=⟨[(0,.one (.d (.list .bool)))],[]⟩
abbrev out54:Shape:=⟨[(0,oB)],[]⟩
noncomputable def b54:Code:=Tryz.f54.body.getD .skip
noncomputable def cx54:Cx:=⟨Tryz.prog,[e83],[],5,[],[]⟩
def F54:List Bool × Unit → Option (Bool × Unit):=func cx54 Tryz.f54 b54 sh54 out54
def e54:FE:=⟨54,sh54,out54,F54⟩
theorem ok54:FEOK Tryz.prog e54:=fk cx54 ⟨ok83,trivial⟩ [] trivial
end
end Go.Vx.Z
/-! slices.SortFunc over an own list, by the shelf's contract, as an entry. -/
namespace Go.Vx
open Go Go.RowKit Go.Proofs Go.Shelf Go.Sort
set_option linter.unusedVariables false
set_option linter.unusedSimpArgs false
def rowShape:Ty → List SAC
 | .unit => []
 | .cons a b => .d a :: rowShape b
 | .int k => [.d (.int k)]
 | .bool => [.d .bool]
 | .str => [.d .str]
 | .list r => [.d (.list r)]
def toP:(r:Ty) → r.D → {X:Type} → X → rowP (rowShape r) X
 | .unit,_,_,y => y
 | .cons _ b,x,_,y => (x.1,toP b x.2 y)
 | .int _,x,_,y => (x,y)
 | .bool,x,_,y => (x,y)
 | .str,x,_,y => (x,y)
 | .list _,x,_,y => (x,y)
theorem em_toP:∀ (r:Ty) (x:r.D) {X:Type} (y:X),emRow (rowShape r) (toP r x y) = (cellsOf r x,y)
 | .unit,_,_,_ => rfl
 | .cons a b,x,X,y => by
  have h:=em_toP b x.2 y
  simp only [rowShape,toP,emRow,emAC,cellsOf,h]
 | .int _,_,_,_ => rfl
 | .bool,_,_,_ => rfl
 | .str,_,_,_ => rfl
 | .list _,_,_,_ => rfl
@[reducible] def shCmp (r:Ty):Shape:=⟨[(0,.row (rowShape r)),(1,.row (rowShape r))],[]⟩
@[reducible] def outI:Shape:=⟨[(0,.one (.d (.int .i64)))],[]⟩
@[reducible] def shSort (e:Nat) (r:Ty) (g:Nat):Shape:=⟨[(0,.one (.own 100000)),(1,.one (.fn g))],[(100000,.lst e r false)]⟩
@[reducible] def outSort (e:Nat) (r:Ty):Shape:=⟨[],[(100000,.lst e r false)]⟩
def sortIdx (lt:Nat → Nat → Bool) (n:Nat):List Nat:=(Sort.pdq lt (Array.range n) 0 n (Lib.bitLen n) true true).toList
def sortBy {α:Type} (cf:α → α → Int):List α → List α
 | [] => []
 | x :: l => (sortIdx (ltOf fun i j => cf ((x :: l).getD i x) ((x :: l).getD j x)) (x :: l).length).map fun i => (x :: l).getD i x
def FSort (r:Ty) (e g:Nat) (ok:r.D → Bool) (cf:r.D → r.D → Int):(shSort e r g).D → Option (outSort e r).D:=fun p =>
 bif p.1.all ok && decide (p.1.length < 4611686018427387904) then some (sortBy cf p.1,()) else none

theorem swo_at {α β:Type} {cf:α → α → Int} (h:SWO (ltOf cf)) (f:β → α):SWO (ltOf fun i j => cf (f i) (f j)):=
 ⟨fun x => h.irrefl (f x),fun x y z => h.trans (f x) (f y) (f z),fun x y z => h.ntrans (f x) (f y) (f z)⟩
theorem pdq_range {lt:Nat → Nat → Bool} (h:SWO lt) (n:Nat):(sortIdx lt n).Perm (List.range n):=by
 obtain ⟨⟨h1,_,h2⟩,_⟩:=Sort.pdq_sorts lt h (Array.range n) 0 n (Lib.bitLen n) true true (Nat.zero_le _) (by simp) (Or.inl rfl)
 have gen:∀ (A:Array Nat),A.size = n → A.extract 0 n = A:=by intro A hA; subst hA; exact Array.extract_size
 have e1:=gen (Sort.pdq lt (Array.range n) 0 n (Lib.bitLen n) true true) (by rw [h1]; simp)
 have e2:=gen (Array.range n) (by simp)
 rw [e1,e2,Array.toList_range] at h2
 exact h2
theorem flatK_toList {α:Type} [Inhabited α] (enc:α → List Value) (k:Nat) (hk:∀ x,(enc x).length = k) (d:Array α):(flatK enc k d).toList = d.toList.flatMap enc:=by
 apply List.ext_getElem
 ·rw [Array.length_toList,size_flatK,List.length_flatMap]
  simp [hk,Function.comp_def]
  rw [List.map_const',List.sum_replicate_nat]; simp
 ·intro t h1 h2
  rw [Array.length_toList,size_flatK] at h1
  have hk0:0 < k:=by
   rcases Nat.eq_zero_or_pos k with h | h
   ·subst h; simp at h1
   ·exact h
  have hd:t / k < d.size:=Nat.div_lt_of_lt_mul (by rw [Nat.mul_comm]; exact h1)
  have hm:t % k < k:=Nat.mod_lt _ hk0
  have g1:=get_flatK enc k d t h1
  rw [getElem!_pos _ t (by rw [size_flatK]; exact h1)] at g1
  rw [Array.getElem_toList,g1]
  have key:∀ (l:List α) (q:Nat),q < l.length → ∀ j,j < k → (l.flatMap enc)[q * k + j]? = (enc l[q]!)[j]?:=by
   intro l
   induction l with
   | nil => intro q hq; simp at hq
   | cons x l ih =>
    intro q hq j hj
    rw [List.flatMap_cons]
    cases q with
    | zero => rw [List.getElem?_append_left (by rw [hk]; omega)]; simp
    | succ q =>
     rw [List.getElem?_append_right (by rw [hk,Nat.add_mul]; omega),hk,show (q + 1) * k + j - k = q * k + j by rw [Nat.add_mul]; omega]
     rw [ih q (by simpa using hq) j hj]
     simp
  have h3:=key d.toList (t / k) (by simpa using hd) (t % k) hm
  rw [Nat.mul_comm,Nat.div_add_mod,List.getElem?_eq_getElem h2] at h3
  have h4:d.toList[t / k]! = d[t / k]!:=by
   rw [getElem!_pos d.toList _ (by simpa using hd),getElem!_pos d _ hd]
   simp
  rw [h4,List.getElem?_eq_getElem (by rw [hk]; exact hm)] at h3
  injection h3 with h3
  rw [h3,getElem!_pos _ _ (by rw [hk]; exact hm)]
section
variable {P:Program} {ρ:Shelf.Ren}
def vsAt (k:Nat) (vs:List Value) (n:Nat) (i:Nat):List Value:=(vs.drop ((if i < n then i else 0) * k)).take k
theorem world_grown {W w':World} (h1:w'.os = W.os) (h2:w'.tape = W.tape) (h3:w'.output = W.output) (h4:W.heap.size ≤ w'.heap.size) (h5:∀ k,k < W.heap.size → w'.heap[k]? = W.heap[k]?) (h6:W.drawn ≤ w'.drawn) :
  ∃ q os',w' = grow (W.drewN q) os':=by
 refine ⟨w'.drawn - W.drawn,w'.heap.extract W.heap.size w'.heap.size,?_⟩
 obtain ⟨wh,wt,wd,wo,wp⟩:=w'
 obtain ⟨Wh,Wt,Wd,Wo,Wp⟩:=W
 simp only at h1 h2 h3 h4 h5 h6
 subst h1 h2 h3
 simp only [grow,World.drewN,World.mk.injEq,true_and,and_true]
 refine ⟨?_,by omega⟩
 apply Array.ext
 ·simp; omega
 ·intro i hi hi'
  rw [Array.getElem_append]
  split
  ·rename_i hlt
   have:=h5 i hlt
   rw [Array.getElem?_eq_getElem hi,Array.getElem?_eq_getElem hlt] at this
   exact Option.some.inj this
  ·rename_i hlt
   rw [Array.getElem_extract]
   congr 1
   omega
theorem sort_ok (L:SlLaysF0.n6 P ρ) (none_ok:∀ (p:Option Addr) (cap:Nat) (fv:Value) (w:World),Calls P (ρ.f 6) #[.slice p 0 cap,fv] w fun e w' => e = .returned (.tuple #[]) ∧ w' = w)
  (ents:∀ args w,(callFunc (ρ.f 6) args).run P w = .ok (.enter (ρ.f 6) args) w)
  {r:Ty} {e g:Nat} (aE:∀ w,(Go.isAgg (ρ.t 24)).run P w = .ok true w) (zE:∀ w,(Go.sizeOf (ρ.t 24)).run P w = .ok r.width w)
  {Fc:(shCmp r).D → Option outI.D} (hc:FEOK P ⟨g,shCmp r,outI,Fc⟩) (eg:∀ args w,(callFunc g args).run P w = .ok (.enter g args) w)
  (cf:r.D → r.D → Int) (ok:r.D → Bool) (hcf:∀ x y,ok x = true → ok y = true → Fc (toP r x (toP r y ())) = some (cf x y,())) (hO:SWO (ltOf cf)) :
  FEOK P ⟨ρ.f 6,shSort e r g,outSort e r,FSort r e g ok cf⟩:=by
 intro p res hF gh w args hsz hH hargs hgd
 obtain ⟨xs,u⟩:=p
 unfold FSort at hF
 simp only at hF
 cases hcond:(xs.all ok && decide (xs.length < 4611686018427387904)) with
 | false => rw [hcond] at hF; cases hF
 | true =>
 rw [hcond] at hF
 simp only [cond_true,Option.some.injEq] at hF
 subst hF
 simp only [Bool.and_eq_true,decide_eq_true_eq,List.all_eq_true] at hcond
 obtain ⟨hok,hlen⟩:=hcond
 have hm:(embed (shSort e r g) (xs,u)).blk 100000 = some (.lst e r xs false):=rfl
 obtain ⟨h1a,h1b,h1c⟩:RepC gh (embed (shSort e r g) (xs,u)).blk w (.own 100000) (args.getD 0 undef):=hargs 0
 have h2:args.getD 1 undef = .func (.func g) #[] #[]:=hargs 1
 have hargs2:args = #[gh.val 100000,.func (.func g) #[] #[]]:=by
  have hsz:args.size = 2:=hsz
  apply Array.ext
  ·simpa using hsz
  ·intro i q1 q2
   simp at q2
   match i,q2 with
   | 0,_ => simpa [Array.getD,q1] using h1b
   | 1,_ => simpa [Array.getD,q1] using h2
 obtain ⟨vs,hown,hvs,hw0,_⟩:=hH.blk 100000 _ hm
 refine .inr ⟨ents _ _,?_⟩
 rw [hargs2]
 -- the end, from a world that holds the new row
 have fin:∀ (w':World) (ys:List r.D) (vs':List Value) (gb:Nat),gh.blk 100000 = some gb → w.grownBy w' (some gb) → w.drawn ≤ w'.drawn → w'.rowR 0 e r.width (gh.val 100000) ys.length vs' → RepCs gh (embed (shSort e r g) (xs,u)).blk w (rowsCells r ys) vs' →
   Ret (outSort e r) (ys,()) gh (embed (shSort e r g) (xs,u)).blk w (.tuple #[]) w':=by
  intro w' ys vs' gb hgb hG hdr ho hr
  have hput:=heap_put hH hm rfl (b':=.lst e r ys false) rfl hgb (fun x h => by obtain ⟨h,_⟩:=h; cases h) hdr hG (fun hc hext => by
   exact ⟨vs',ho,repCs_mono (g:=gh) (g':=gh) (m:=(embed (shSort e r g) (xs,u)).blk) (fun _ h => h) hc hext hr,hw0,fun hf => by cases hf⟩)
  obtain ⟨hH2,hT2,_⟩:=hput
  have hme:upd (embed (shSort e r g) (xs,u)).blk 100000 (.lst e r ys false) = (embed (outSort e r) (ys,())).blk:=by
   funext i
   show (bif Nat.beq 100000 i then some _ else lookM i _) = lookM i _
   simp only [embed,emMem,emBlk,lookM]
   cases Nat.beq 100000 i <;> rfl
  rw [hme] at hH2 hT2
  exact ⟨gh,hH2,hT2,⟨#[],rfl,.nil⟩⟩
 rcases hown.2 with ⟨hv,h0⟩ | ⟨gb,cap,cur,hv,_,hg,hnc,hcm,hcs,htk⟩
 ·-- nil
  rw [hv]
  have hx:xs = []:=List.eq_nil_of_length_eq_zero h0
  subst hx
  refine Calls.mono (none_ok none 0 _ w) fun ev w' ⟨he,hw⟩ => ⟨_,he,?_⟩
  subst hw
  have hme:(embed (shSort e r g) (([]:List r.D),u)).blk = (embed (outSort e r) (([]:List r.D),())).blk:=by funext i; rfl
  refine ⟨gh,?_,?_,⟨#[],rfl,.nil⟩⟩
  ·show HeapOK gh (embed (outSort e r) (([]:List r.D),())).blk w'
   rw [← hme]; exact hH
  ·show Tr gh _ w' gh (embed (outSort e r) (([]:List r.D),())).blk w'
   rw [← hme]; exact Tr.refl _ _ _
 ·rw [hv]
  have hgb:gh.blk 100000 = some gb:=by simp [Gh.blk,hv,blockOfV]
  have hglt:gb < w.heap.size:=(Array.getElem?_eq_some_iff.1 hg).1
  cases xs with
  | nil =>
   refine Calls.mono (none_ok _ cap _ w) fun ev w' ⟨he,hw⟩ => ⟨_,he,?_⟩
   subst hw
   have hme:(embed (shSort e r g) (([]:List r.D),u)).blk = (embed (outSort e r) (([]:List r.D),())).blk:=by funext i; rfl
   refine ⟨gh,?_,?_,⟨#[],rfl,.nil⟩⟩
   ·show HeapOK gh (embed (outSort e r) (([]:List r.D),())).blk w'
    rw [← hme]; exact hH
   ·show Tr gh _ w' gh (embed (outSort e r) (([]:List r.D),())).blk w'
    rw [← hme]; exact Tr.refl _ _ _
  | cons x0 l =>
   generalize hX:x0 :: l = X at *
   have hX0:0 < X.length:=by rw [← hX]; simp
   have hvl:vs.length = X.length * r.width:=hown.1
   have hclamp:∀ i,(if i < X.length then i else 0) < X.length:=fun i => by split <;> omega
   have henc:∀ i,(vsAt r.width vs X.length i).length = r.width:=fun i => by
    unfold vsAt
    rw [List.length_take,List.length_drop,hvl]
    have:=Nat.mul_le_mul_right r.width (show (if i < X.length then i else 0) + 1 ≤ X.length from hclamp i)
    rw [Nat.add_mul,Nat.one_mul] at this
    omega
   have hrep:∀ i,RepCs gh (embed (shSort e r g) (X,u)).blk w (cellsOf r (X.getD i x0)) (vsAt r.width vs X.length i):=fun i => by
    unfold vsAt
    have hi:=hclamp i
    have hgx:X[if i < X.length then i else 0]? = some (X.getD i x0):=by
     split
     ·rename_i hlt; simp [List.getD,hlt]
     ·rename_i hlt
      rw [show X.getD i x0 = x0 by simp [List.getD,Nat.le_of_not_lt hlt],← hX]
      rfl
    rw [← rowsCells_at X _ _ hgx]
    exact (hvs.drop _).take _
   have hone:∀ i,∀ v ∈ vsAt r.width vs X.length i,v.oneCell' = true:=fun i => repCs_one (hrep i) (cellsOf_ok _)
   have hokX:∀ i,ok (X.getD i x0) = true:=fun i => by
    refine hok _ ?_
    by_cases hlt:i < X.length
    ·simp only [List.getD,List.getElem?_eq_getElem hlt,Option.getD_some]; exact List.getElem_mem hlt
    ·rw [show X.getD i x0 = x0 by simp [List.getD,Nat.le_of_not_lt hlt],← hX]; simp
   let cI:Nat → Nat → Int:=fun i j => cf (X.getD i x0) (X.getD j x0)
   have hOI:SWO (ltOf cI):=swo_at hO fun i => X.getD i x0
   have hflat:(flatK (vsAt r.width vs X.length) r.width (Array.range X.length)).toList = vs:=by
    rw [flatK_toList _ _ henc,Array.toList_range]
    have key:∀ n,n ≤ X.length → (List.range n).flatMap (vsAt r.width vs X.length) = vs.take (n * r.width):=by
     intro n
     induction n with
     | zero => intro _; simp
     | succ n ih =>
      intro hn
      rw [List.range_succ,List.flatMap_append,ih (by omega),List.flatMap_cons,List.flatMap_nil,List.append_nil]
      unfold vsAt
      rw [if_pos (by omega),Nat.add_mul,Nat.one_mul,List.take_add]
    rw [key _ (Nat.le_refl _),← hvl,List.take_length]
   have hHK:HoldsK (vsAt r.width vs X.length) r.width w gb 0 (Array.range X.length):=by
    intro j hj
    rw [size_flatK,Array.size_range] at hj
    rw [Nat.zero_add]
    have hown':w.rowR 0 e r.width (.slice (some ⟨gb,0,none⟩) X.length cap) X.length vs:=by rw [← hv]; exact hown
    refine ⟨?_,hown'.frozenAt j⟩
    rw [hown'.cellAt j hj]
    have e1:=get_flatK (vsAt r.width vs X.length) r.width (Array.range X.length) j (by simpa using hj)
    have hlt:j < (flatK (vsAt r.width vs X.length) r.width (Array.range X.length)).size:=by simpa using hj
    rw [getElem!_pos _ j hlt,← Array.getElem_toList]
    simp only [hflat]
    rw [List.getElem?_eq_getElem (by rw [hvl]; exact hj)]
    rfl
   -- the stable cells lie elsewhere
   have hng:∀ x,gh.S x → x.block ≠ gb:=fun x hx e' => by
    have:=hH.sep x hx 100000 _ hm (by rw [hgb,e'])
    obtain ⟨h,_⟩:=this
    cases h
   have hheap:∀ m os dk k,k ≠ gb → k < w.heap.size → (sortWorldK (vsAt r.width vs X.length) r.width w gb 0 m dk os).heap[k]? = w.heap[k]?:=by
    intro m os dk k hk hlt
    unfold sortWorldK putRowK putRow mapBlock grow Sort.ahead
    simp only
    rw [Array.getElem?_append_left (by simpa using hlt),Array.getElem?_modify,if_neg (Ne.symm hk)]
   have hsize:∀ m os dk,w.heap.size ≤ (sortWorldK (vsAt r.width vs X.length) r.width w gb 0 m dk os).heap.size:=by
    intro m os dk
    unfold sortWorldK putRowK putRow mapBlock grow Sort.ahead
    simp
   have hcell:∀ m os dk x,gh.S x → (sortWorldK (vsAt r.width vs X.length) r.width w gb 0 m dk os).cell? x = w.cell? x:=fun m os dk x hx =>
    World.cell?_of_block (hheap m os dk x.block (hng x hx) (hH.S_lt hx))
   have hcmp:CmpLays P g #[] (vsAt r.width vs X.length) r.width cI gb 0 (Array.range X.length).size w:=by
    intro m os dk hdk i j
    generalize hWd:sortWorldK (vsAt r.width vs X.length) r.width w gb 0 m dk os = W
    have hcW:∀ x,gh.S x → W.cell? x = w.cell? x:=fun x hx => by rw [← hWd]; exact hcell m os dk x hx
    have hHW:HeapOK gh (fun _ => none) W:=⟨⟨fun id b h => (by cases h),fun i j b c h => (by cases h),fun x hx id b h => (by cases h),fun x hx => by
     obtain ⟨q1,v,q2⟩:=hH.st x hx
     exact ⟨q1,v,by rw [hcW x hx]; exact q2⟩⟩,fun k cs hK => by
     obtain ⟨⟨e0,fz,g1⟩,g2⟩:=hH.gr k cs hK
     refine ⟨⟨e0,fz,?_⟩,fun id b h => (by cases h)⟩
     rw [← hWd,hheap _ _ _ k (fun e' => g2 100000 _ hm rfl (by rw [hgb,e'])) (Array.getElem?_eq_some_iff.1 g1).1]
     exact g1⟩
    have hrW:∀ i,RepCs gh (fun _ => none) W (cellsOf r (X.getD i x0)) (vsAt r.width vs X.length i):=fun i => by
     refine all2_of_mem (fun a ha v hv => ?_) (hrep i)
     obtain ⟨t,y,rfl⟩:=cellsOf_c ha
     exact repD_mono (S:=gh.S) (w:=w) (fun _ h => h) hcW (hv:RepD gh.S w t y v)
    have hFc:=hcf _ _ (hokX i) (hokX j)
    have henv:(embed (shCmp r) (toP r (X.getD i x0) (toP r (X.getD j x0) ()))).env = [(0,.v (.row (cellsOf r (X.getD i x0)))),(1,.v (.row (cellsOf r (X.getD j x0))))]:=by
     simp only [embed,emEnv,emA1,em_toP]
    have hdoes:=hc _ _ hFc gh W #[.agg (vsAt r.width vs X.length i).toArray,.agg (vsAt r.width vs X.length j).toArray] rfl hHW (fun t => by
     show RepV gh (fun _ => none) W (lookE t (embed (shCmp r) (toP r (X.getD i x0) (toP r (X.getD j x0) ()))).env) _
     rw [henv]
     match t with
     | 0 => exact ⟨_,rfl,by simpa using hrW i⟩
     | 1 => exact ⟨_,rfl,by simpa using hrW j⟩
     | t + 2 => trivial) hgd
    rcases hdoes with ⟨v,w',q1,_⟩ | ⟨_,q2⟩
    ·rw [eg] at q1; cases q1
    ·refine Calls.mono q2 fun ev w' ⟨v,he,gh',hH',hT',hres⟩ => ?_
     have hv':v = .int .i64 (cI i j):=hres
     refine ⟨by rw [he,hv'],?_⟩
     exact world_grown hT'.os hT'.tape hT'.output hT'.size (fun k hk => hT'.same k hk fun id b h => by cases h) hT'.drawn
   have hcon:=AnyQ.slices_SortFunc_eq L r.width aE zE (vsAt r.width vs X.length) henc hone cI hOI g #[] gb 0 cap (Array.range X.length) w eg hcmp hHK hglt (by simpa using hlen)
   rw [show (Array.range X.length).size = X.length by simp] at hcon
   refine Calls.mono hcon fun ev w' ⟨he,n,os,hw'⟩ => ⟨_,he,?_⟩
   -- the new row
   have hperm:=pdq_range hOI X.length
   generalize hD:Sort.pdq (ltOf cI) (Array.range X.length) 0 X.length (Lib.bitLen X.length) true true = D at hw'
   have hDl:sortIdx (ltOf cI) X.length = D.toList:=by rw [← hD]; rfl
   rw [hDl] at hperm
   have hDs:D.size = X.length:=by have:=hperm.length_eq; simpa using this
   have hys:sortBy cf X = D.toList.map fun i => X.getD i x0:=by
    rw [← hDl]
    have:∀ Y:List r.D,x0 :: l = Y → sortBy cf Y = (sortIdx (ltOf fun i j => cf (Y.getD i x0) (Y.getD j x0)) Y.length).map fun i => Y.getD i x0:=by
     intro Y hY
     subst hY
     rfl
    exact this X hX
   rw [hys]
   have hF:=flatK_toList (vsAt r.width vs X.length) r.width henc D
   have hFs:(flatK (vsAt r.width vs X.length) r.width D).size = X.length * r.width:=by rw [size_flatK,hDs]
   refine fin w' _ (D.toList.flatMap (vsAt r.width vs X.length)) gb hgb ?_ ?_ ?_ ?_
   ·refine ⟨by rw [hw']; rfl,by rw [hw']; rfl,by rw [hw']; rfl,by rw [hw']; exact hsize n os D,fun k hk hne => by rw [hw']; exact hheap n os D k (fun e' => hne (by rw [e'])) hk⟩
   ·rw [hw']
    show w.drawn ≤ w.drawn + n
    omega
   ·have hDl2:D.toList.length = X.length:=by simpa using hDs
    rw [hv,List.length_map,hDl2]
    refine ⟨by rw [← hF,Array.length_toList,hFs],.inr ⟨gb,cap,putCells id 0 (flatK (vsAt r.width vs X.length) r.width D) cur,rfl,Nat.zero_le _,?_,hnc,hcm,by unfold putCells; rw [Array.size_mapIdx]; exact hcs,?_⟩⟩
    ·rw [hw']
     unfold sortWorldK putRowK putRow mapBlock grow Sort.ahead
     simp only
     rw [Array.getElem?_append_left (by simpa using hglt),Array.getElem?_modify,if_pos rfl,hg]
     rfl
    ·rw [← hF]
     apply List.ext_getElem?
     intro t
     rw [List.getElem?_take]
     have hle:X.length * r.width ≤ cap * r.width:=Nat.mul_le_mul_right _ hnc
     split
     ·rename_i hlt
      have htc:t < cur.size:=by omega
      have htF:t < (flatK (vsAt r.width vs X.length) r.width D).size:=by rw [hFs]; exact hlt
      rw [Array.getElem?_toList,Array.getElem?_toList,Array.getElem?_eq_getElem htF]
      unfold putCells
      rw [Array.getElem?_mapIdx,Array.getElem?_eq_getElem htc]
      simp only [Option.map_some,Nat.zero_le,Nat.zero_add,true_and,Nat.sub_zero,id_eq]
      rw [if_pos htF,getElem!_pos _ t htF]
     ·rename_i hlt
      rw [Array.getElem?_toList,Array.getElem?_eq_none (by rw [hFs]; omega)]
   ·have:∀ (M:List Nat),RepCs gh (embed (shSort e r g) (X,u)).blk w (rowsCells r (M.map fun i => X.getD i x0)) (M.flatMap (vsAt r.width vs X.length)):=by
     intro M
     induction M with
     | nil => exact .nil
     | cons i M ih =>
      rw [List.map_cons,List.flatMap_cons]
      unfold rowsCells
      rw [List.flatMap_cons]
      exact All2.append (hrep i) ih
    exact this _
end
end Go.Vx
/-! A range over a function: what its rounds need of the evaluator. -/
namespace Go.Vx
open Go Go.RowKit
set_option linter.unusedVariables false
set_option linter.unusedSimpArgs false
variable {R:Type}
def Fw (ro:Option Nat):Fence:={ Fence.wide with round:=ro }
theorem oper_in {P:Program} {o:Oper} {a:Act} {w:World} {next:Act → World → Prop} {Q:Exit → Act → World → Prop} {ro:Option Nat} (hd:∀ c,o.op ≠ .defer c) (h:o.wp P a w next Q):o.wpIn (Fw ro) 0 P a w next Q:=by
 refine ⟨fun _ _ => trivial,?_⟩
 rw [Oper.semAt_eq _ _ _ hd]
 unfold Oper.wp at h
 revert h
 cases (execOp a.eval o).run P w with
 | ok v w' =>
  cases v with
  | value v => intro h; exact h
  | skip => intro h; exact h
  | «defer» d => intro h; exact h
  | enter f args => intro h; exact ⟨fun e => by simp [Fw,Fence.wide] at e,callsIn_wide.2 h⟩
  | row row args =>
   intro h
   refine ⟨fun e => by simp [Fw,Fence.wide] at e,fun c cs _ => ?_⟩
   obtain ⟨v,w',h1,h2⟩:=h c cs
   exact ⟨v,w',h1,stepsIn_wide.2 h2⟩
  | round l f tmps assign body => intro h; exact h.elim
  | _ => intro h; exact h.elim
 | halt x w' =>
  cases x with
  | panic v => intro h; exact h
  | _ => intro h; exact h.elim
abbrev dfr (d:List Deferred) (a:Act):Act:={ a with defers:=d }
def simpleOp (o:Oper):Bool:=match o.op with
 | .load _ _ => true
 | .move _ => true
 | .assign _ => true
 | _ => false
theorem oper_in_d {P:Program} {o:Oper} {a:Act} {w:World} {next:Act → World → Prop} {Q:Exit → Act → World → Prop} {ro:Option Nat} (d:List Deferred) (hd:simpleOp o = true)
  (h:o.wp P a w (fun a w => next (dfr d a) w) (fun e a w => Q e (dfr d a) w)):o.wpIn (Fw ro) 0 P (dfr d a) w next Q:=by
 refine ⟨fun _ _ => trivial,?_⟩
 rw [Oper.semAt_eq _ _ _ (fun c e => by simp [simpleOp,e] at hd)]
 unfold Oper.wp at h
 show o.uponIn (Fw ro) 0 P (dfr d a) next Q ((execOp a.eval o).run P w)
 have hp:∀ v,(dfr d a).put o.dst v = dfr d (a.put o.dst v):=fun v => by unfold Act.put; cases o.dst <;> rfl
 have hv:∀ v,(execOp a.eval o).run P w = .ok (.value v) w → o.uponIn (Fw ro) 0 P (dfr d a) next Q ((execOp a.eval o).run P w):=fun v e => by
  rw [e] at h ⊢
  show next _ _
  rw [hp]
  exact h
 unfold simpleOp at hd
 split at hd
 ·rename_i t x ho
  have e:execOp a.eval o = (do pure (.value (← Instr.loadAt t (a.eval x))):Sem Next):=by unfold execOp; rw [ho]
  rw [e] at h ⊢
  rw [Sem.run_bind] at h ⊢
  cases hl:(Instr.loadAt t (a.eval x)).run P w with
  | ok v w' =>
   rw [hl] at h
   simp only [Result.andThen,Sem.run_pure] at h ⊢
   show next _ _
   rw [hp]
   exact h
  | halt x w' =>
   rw [hl] at h
   simp only [Result.andThen] at h ⊢
   cases x with
   | panic v => exact h
   | _ => exact h.elim
 ·rename_i x ho
  exact hv (a.eval x) (by unfold execOp; rw [ho]; rfl)
 ·rename_i x ho
  exact hv (a.eval x) (by unfold execOp; rw [ho]; rfl)
 ·cases hd
def noDefer (o:Oper):Bool:=match o.op with
 | .defer _ => false
 | _ => true
theorem noDefer_ne {o:Oper} (h:noDefer o = true):∀ c,o.op ≠ .defer c:=fun c e => by simp [noDefer,e] at h
theorem wp_tmps {P:Program} {o:Oper} {a:Act} {w:World} {next:Act → World → Prop} {Q:Exit → Act → World → Prop} {I:Array Value → Prop} (hI:∀ v,I (a.put o.dst v).tmps) (h:o.wp P a w (fun a w => I a.tmps → next a w) Q):o.wp P a w next Q:=by
 unfold Oper.wp at h ⊢
 revert h
 cases (execOp a.eval o).run P w with
 | ok v w' =>
  cases v with
  | value v => intro h; exact h (hI v)
  | skip => intro h; exact h (hI _)
  | «defer» d =>
   intro h
   refine h ?_
   have:=hI undef
   unfold Act.put at this ⊢
   cases hd:o.dst with
   | none => rw [hd] at this; exact this
   | some t => rw [hd] at this; exact this
  | enter f args =>
   intro h
   refine Calls.mono h fun e w'' hh => ?_
   cases e with
   | returned v => exact hh (hI v)
   | panicked ch => exact hh
   | outgrown => exact hh
  | row row args => intro h; exact Rows.mono h fun v w' hh => hh (hI v)
  | round l f tmps assign body => intro h; exact h
  | _ => intro h; exact h
 | halt x w' =>
  cases x with
  | panic v => intro h; exact h
  | _ => intro h; exact h.elim
def Keep (I:Array Value → Prop) (os:List Oper):Prop:=∀ o ∈ os,∀ (a:Act) v,I a.tmps → I (a.put o.dst v).tmps
theorem keep_true (os:List Oper):Keep (fun _ => True) os:=fun _ _ _ _ _ => trivial
theorem keep_slot {s:Nat} {v:Value} {os:List Oper} (h:os.all (fun o => match o.dst with | some d => !Nat.beq d s | none => true) = true):Keep (fun t => t.getD s undef = v) os:=by
 intro o ho a u hu
 have:=List.all_eq_true.1 h o ho
 unfold Act.put
 cases hd:o.dst with
 | none => exact hu
 | some d =>
  rw [hd] at this
  simp only [Bool.not_eq_true'] at this
  have hne:d ≠ s:=fun e => by rw [e] at this; simp at this
  show (a.tmps.setIfInBounds d u).getD s undef = v
  rw [← hu]
  simp [Array.getD_eq_getD_getElem?,Array.getElem?_setIfInBounds,hne]
theorem keep_and {I J:Array Value → Prop} {os:List Oper} (h:Keep I os) (k:Keep J os):Keep (fun t => I t ∧ J t) os:=fun o ho a v ⟨h1,h2⟩ => ⟨h o ho a v h1,k o ho a v h2⟩
theorem trace_in {P:Program} {n:Nat} {ops:Array Oper} {Q:Exit → Act → World → Prop} {C:Ctx} {ro:Option Nat} {I:Array Value → Prop} (hn:C.Is P n) (rest:List Nat):∀ (os:List Oper) (i:Nat) (σ:St) (es:List Eff),(∀ j o,os[j]? = some o → ops[i + j]? = some o) → (∀ o ∈ os,noDefer o = true) → Keep I os → Trace P n ops os σ es →
  (∀ gh a w,Sim C gh (endOf os σ es) a w → I a.tmps → wpOpsIn (Fw ro) 0 P ops Q rest a w) → ∀ gh a w,Sim C gh σ a w → I a.tmps → wpOpsIn (Fw ro) 0 P ops Q (List.range' i os.length ++ rest) a w
 | [],i,σ,[],_,_,_,_,hQ,gh,a,w,hs,hI => hQ gh a w hs hI
 | [],_,_,_ :: _,_,_,_,h,_,_,_,_,_,_ => h.elim
 | _ :: _,_,_,[],_,_,_,h,_,_,_,_,_,_ => h.elim
 | o :: os,i,σ,e :: es,ho,hd,hk,h,hQ,gh,a,w,hs,hI => by
  have h0:ops[i]? = some o:=by simpa using ho 0 o rfl
  have hrec:=trace_in (ro:=ro) hn rest os (i + 1) (σ.apply o.dst e) es (fun j o' hj => by rw [Nat.add_assoc,Nat.add_comm 1 j]; exact ho (j + 1) o' (by simpa using hj)) (fun o' ho' => hd o' (List.mem_cons_of_mem _ ho')) (fun o' ho' => hk o' (List.mem_cons_of_mem _ ho')) h.2 hQ
  simp only [List.length_cons,List.range'_succ,List.cons_append,wpOpsIn,h0]
  have hput:∀ v,I (a.put o.dst v).tmps:=fun v => hk o (by simp) a v hI
  have:=h.1 C gh σ a w (fun a w => I a.tmps → wpOpsIn (Fw ro) 0 P ops Q (List.range' (i + 1) os.length ++ rest) a w) Q hn (agree_iff.2 fun _ _ => rfl) hs (fun gh' a' w' hs' => hrec gh' a' w' hs')
  split
  ·rename_i hw
   rw [if_pos hw] at this
   exact oper_in (noDefer_ne (hd o (by simp))) (wp_tmps hput this)
  ·rename_i hw
   rw [if_neg hw] at this
   exact ⟨fun _ _ => trivial,this (hput _)⟩
theorem trace_in_d {P:Program} {n:Nat} {ops:Array Oper} {Q:Exit → Act → World → Prop} {C:Ctx} {ro:Option Nat} (d:List Deferred) (hn:C.Is P n):∀ (os:List Oper) (i:Nat) (σ:St) (es:List Eff),(∀ j o,os[j]? = some o → ops[i + j]? = some o) → (∀ o ∈ os,simpleOp o = true) → Trace P n ops os σ es →
  (∀ gh a w,Sim C gh (endOf os σ es) a w → Q .normal (dfr d a) w) → ∀ gh a w,Sim C gh σ a w → wpOpsIn (Fw ro) 0 P ops Q (List.range' i os.length) (dfr d a) w
 | [],i,σ,[],_,_,_,hQ,gh,a,w,hs => hQ gh a w hs
 | [],_,_,_ :: _,_,_,h,_,_,_,_,_ => h.elim
 | _ :: _,_,_,[],_,_,h,_,_,_,_,_ => h.elim
 | o :: os,i,σ,e :: es,ho,hd,h,hQ,gh,a,w,hs => by
  have h0:ops[i]? = some o:=by simpa using ho 0 o rfl
  have hrec:=trace_in_d (ro:=ro) d hn os (i + 1) (σ.apply o.dst e) es (fun j o' hj => by rw [Nat.add_assoc,Nat.add_comm 1 j]; exact ho (j + 1) o' (by simpa using hj)) (fun o' ho' => hd o' (List.mem_cons_of_mem _ ho')) h.2 hQ
  simp only [List.length_cons,List.range'_succ,wpOpsIn,h0]
  have:=h.1 C gh σ a w (fun a w => wpOpsIn (Fw ro) 0 P ops Q (List.range' (i + 1) os.length) (dfr d a) w) (fun e a w => Q e (dfr d a) w) hn (agree_iff.2 fun _ _ => rfl) hs (fun gh' a' w' hs' => hrec gh' a' w' hs')
  split
  ·rename_i hw
   have hw':Region.wanted o (yielded ops a.tmps) = true:=hw
   rw [if_pos hw'] at this
   exact oper_in_d d (hd o (by simp)) this
  ·rename_i hw
   have hw':¬ Region.wanted o (yielded ops a.tmps) = true:=hw
   rw [if_neg hw'] at this
   refine ⟨fun _ _ => trivial,?_⟩
   have hp:∀ v,(dfr d a).put o.dst v = dfr d (a.put o.dst v):=fun v => by unfold Act.put; cases o.dst <;> rfl
   rw [hp]
   exact this
theorem ops_in {cx:Cx} (hst:∀ R:Type,StepSound R cx) {ops:Array Oper} {Q:Exit → Act → World → Prop} {ro:Option Nat} {I:Array Value → Prop} {os all:List Oper} {σ:St} {K:St → Option R} {r:R} {i:Nat} (hall:all = ops.toList) (hd:os.all noDefer = true) (hk:Keep I os) (ho:∀ j o,os[j]? = some o → ops[i + j]? = some o)
  (h:runOps cx all os σ [] (fun _ τ => K τ) = some r) (rest:List Nat) {C:Ctx} {gh:Gh} {a:Act} {w:World} (hn:C.Is cx.T cx.n) (hs:Sim C gh σ a w) (hI:I a.tmps)
  (hQ:∀ τ,K τ = some r → ∀ gh' a' w',Sim C gh' τ a' w' → I a'.tmps → wpOpsIn (Fw ro) 0 cx.T ops Q rest a' w'):wpOpsIn (Fw ro) 0 cx.T ops Q (List.range' i os.length ++ rest) a w:=by
 subst hall
 obtain ⟨es,τ',h1,h2,h3⟩:=runOps_sound (hst _) _ _ _ _ _ _ h
 have hot:ops.toList.toArray = ops:=by simp
 rw [hot] at h1
 exact trace_in hn rest os i σ es ho (fun o ho => List.all_eq_true.1 hd o ho) hk h1 (fun gh' a' w' hs' hI' => hQ _ h3 gh' a' w' (sim_same h2 hs') hI') gh a w hs hI
theorem region_in' {cx:Cx} (hst:∀ R:Type,StepSound R cx) {id:Nat} {ops:Array Oper} {Q:Exit → Act → World → Prop} {ro:Option Nat} {I:Array Value → Prop} {σ:St} {K:St → Option R} {r:R} (hd:ops.toList.all noDefer = true) (hk:Keep I ops.toList)
  (h:runOps cx ops.toList ops.toList σ [] (fun _ τ => K τ) = some r) {C:Ctx} {gh:Gh} {a:Act} {w:World} (hn:C.Is cx.T cx.n) (hs:Sim C gh σ a w) (hI:I a.tmps)
  (hQ:∀ τ,K τ = some r → ∀ gh' a' w',Sim C gh' τ a' w' → I a'.tmps → Q .normal a' w'):(Code.region id ops false).wpIn (Fw ro) 0 cx.T Q a w:=by
 refine wpIn_region ?_
 have:=ops_in (Q:=Q) (ro:=ro) (i:=0) hst rfl hd hk (ops:=ops) (os:=ops.toList) (fun j o ho => by simpa using ho) h [] hn hs hI (fun τ hK gh' a' w' hs' hI' => hQ τ hK gh' a' w' hs' hI')
 rw [List.range_eq_range']
 simpa using this
theorem region_in {cx:Cx} (hst:∀ R:Type,StepSound R cx) {id:Nat} {ops:Array Oper} {Q:Exit → Act → World → Prop} {ro:Option Nat} {σ:St} {K:St → Option R} {r:R} (hd:ops.toList.all noDefer = true)
  (h:runOps cx ops.toList ops.toList σ [] (fun _ τ => K τ) = some r) {C:Ctx} {gh:Gh} {a:Act} {w:World} (hn:C.Is cx.T cx.n) (hs:Sim C gh σ a w)
  (hQ:∀ τ,K τ = some r → ∀ gh' a' w',Sim C gh' τ a' w' → Q .normal a' w'):(Code.region id ops false).wpIn (Fw ro) 0 cx.T Q a w:=
 region_in' hst hd (keep_true _) h hn hs trivial fun τ hK gh' a' w' hs' _ => hQ τ hK gh' a' w' hs'
theorem region_in_d {cx:Cx} (hst:∀ R:Type,StepSound R cx) {id:Nat} {ops:Array Oper} {Q:Exit → Act → World → Prop} {ro:Option Nat} {σ:St} {K:St → Option R} {r:R} (d:List Deferred) (hd:ops.toList.all simpleOp = true)
  (h:runOps cx ops.toList ops.toList σ [] (fun _ τ => K τ) = some r) {C:Ctx} {gh:Gh} {a:Act} {w:World} (hn:C.Is cx.T cx.n) (hs:Sim C gh σ a w)
  (hQ:∀ τ,K τ = some r → ∀ gh' a' w',Sim C gh' τ a' w' → Q .normal (dfr d a') w'):(Code.region id ops false).wpIn (Fw ro) 0 cx.T Q (dfr d a) w:=by
 refine wpIn_region ?_
 obtain ⟨es,τ',h1,h2,h3⟩:=runOps_sound (hst _) _ _ _ _ _ _ h
 have hot:ops.toList.toArray = ops:=by simp
 rw [hot] at h1
 have:=trace_in_d (Q:=Q) (ro:=ro) d hn ops.toList 0 σ es (fun j o ho => by simpa using ho) (fun o ho => List.all_eq_true.1 hd o ho) h1 (fun gh' a' w' hs' => hQ _ h3 gh' a' w' (sim_same h2 hs')) gh a w hs
 rw [List.range_eq_range']
 simpa using this

theorem wpOpsIn_cons {F:Fence} {n:Nat} {P:Program} {ops:Array Oper} {Q:Exit → Act → World → Prop} {i:Nat} {rest:List Nat} {a:Act} {w:World} {o:Oper} (ho:ops[i]? = some o) (hg:o.guard = none) (h:o.wpIn F n P a w (wpOpsIn F n P ops Q rest) Q):wpOpsIn F n P ops Q (i :: rest) a w:=by
 simp only [wpOpsIn,ho,Region.wanted,hg,if_true]
 exact h
/-! Changes beside the blocks -/
structure Aside (B:Nat) (W W':World):Prop where
 os:W'.os = W.os
 tape:W'.tape = W.tape
 output:W'.output = W.output
 drawn:W.drawn ≤ W'.drawn
 size:W.heap.size ≤ W'.heap.size
 cells:∀ (k:Nat) vs t z,W.heap[k]? = some (Obj.cells vs t z) → W'.heap[k]? = some (Obj.cells vs t z)
 map:∀ (k:Nat) e c,W.heap[k]? = some (Obj.map e c) → W'.heap[k]? = some (Obj.map e c)
 low:∀ (k:Nat),k < B → k < W.heap.size → W'.heap[k]? = W.heap[k]?
theorem Aside.refl (B:Nat) (W:World):Aside B W W:=⟨rfl,rfl,rfl,Nat.le_refl _,Nat.le_refl _,fun _ _ _ _ h => h,fun _ _ _ h => h,fun _ _ _ => rfl⟩
theorem Aside.alloc (B:Nat) (W:World) (o:Obj):Aside B W (W.alloc o):=by
 have h:∀ k,k < W.heap.size → (W.alloc o).heap[k]? = W.heap[k]?:=fun k hk => Below.heap_alloc _ _ k hk
 exact ⟨rfl,rfl,rfl,Nat.le_refl _,by simp,fun k vs t z e => (h k (Array.getElem?_eq_some_iff.1 e).1).trans e,fun k _ _ e => (h k (Array.getElem?_eq_some_iff.1 e).1).trans e,fun k _ hk => h k hk⟩
theorem Aside.putObj {B:Nat} {W:World} {l:Nat} {o o':Obj} (hl:W.heap[l]? = some o) (hB:B ≤ l) (h1:∀ vs t z,o ≠ .cells vs t z) (h2:∀ e c,o ≠ .map e c):Aside B W (W.putObj l o'):=by
 have h:∀ k,k ≠ l → (W.putObj l o').heap[k]? = W.heap[k]?:=fun k hk => World.putObj_heap_other hk
 refine ⟨rfl,rfl,rfl,Nat.le_refl _,by simp [World.putObj],fun k vs t z e => (h k ?_).trans e,fun k _ _ e => (h k ?_).trans e,fun k hk _ => h k (by omega)⟩
 ·rintro rfl; rw [hl] at e; cases e; exact h1 _ _ _ rfl
 ·rintro rfl; rw [hl] at e; cases e; exact h2 _ _ rfl
theorem Aside.trans {B:Nat} {W W' W'':World} (h:Aside B W W') (h':Aside B W' W''):Aside B W W'':=
 ⟨h'.os.trans h.os,h'.tape.trans h.tape,h'.output.trans h.output,Nat.le_trans h.drawn h'.drawn,Nat.le_trans h.size h'.size,fun k vs t z e => h'.cells k vs t z (h.cells k vs t z e),fun k a c e => h'.map k a c (h.map k a c e),
  fun k hk hk' => (h'.low k hk (Nat.lt_of_lt_of_le hk' h.size)).trans (h.low k hk hk')⟩
theorem blk_obj {g:Gh} {m:Mem} {W:World} (H:HeapOK g m W) (hno:∀ id s p,m id ≠ some (.it s p)) {id:Nat} {b:Blk} (hb:m id = some b) (hl:b.live = true) {k:Nat} (hk:g.blk id = some k) :
  (∃ vs t z,W.heap[k]? = some (.cells vs t z)) ∨ ∃ e c,W.heap[k]? = some (.map e c):=by
 have h:=H.blk id b hb
 cases b with
 | dead => cases hl
 | box tid l =>
  obtain ⟨g',vals,h1,h2,_⟩:=h
  have:k = g':=by rw [Gh.blk,h1] at hk; injection hk with hk; exact hk.symm
  subst this
  exact .inl ⟨_,_,_,h2⟩
 | lst e r xs fz =>
  obtain ⟨vs,h1,_⟩:=h
  rcases h1.2 with ⟨h2,_⟩ | ⟨gb,cap,cur,h2,_,h3,_⟩
  ·rw [Gh.blk,h2] at hk; cases hk
  ·have:k = gb:=by rw [Gh.blk,h2] at hk; injection hk with hk; exact hk.symm
   subst this
   exact .inl ⟨_,_,_,h3⟩
 | mp kr es =>
  obtain ⟨_,g',ents,clock,h1,h2,_⟩:=h
  have:k = g':=by rw [Gh.blk,h1] at hk; injection hk with hk; exact hk.symm
  subst this
  exact .inr ⟨_,_,h2⟩
 | byt e xs =>
  obtain ⟨g',c,cur,fz,h1,h2,_⟩:=h
  have:k = g':=by rw [Gh.blk,h1] at hk; injection hk with hk; exact hk.symm
  subst this
  exact .inl ⟨_,_,_,h2⟩
 | it s p => exact absurd hb (hno id s p)
theorem cell_cells {W:World} {x:Addr} {v:Value} (hs:x.spot = none) (h:W.cell? x = some v):∃ vs t z,W.heap[x.block]? = some (.cells vs t z):=by
 obtain ⟨b,o,s⟩:=x
 simp only at hs
 subst hs
 unfold World.cell? at h
 simp only at h ⊢
 split at h
 ·rename_i cs t z heq; exact ⟨_,_,_,heq⟩
 ·cases h
theorem aside {B:Nat} {g1:Gh} {m1:Mem} {W1:World} {g:Gh} {m:Mem} {W W':World} (H:HeapOK g m W) (hno:∀ id s p,m id ≠ some (.it s p)) (T:Tr g1 m1 W1 g m W) (hB:W1.heap.size ≤ B) (h:Aside B W W'):HeapOK g m W' ∧ Tr g1 m1 W1 g m W':=by
 have hk:∀ (k:Nat),((∃ vs t z,W.heap[k]? = some (Obj.cells vs t z)) ∨ ∃ e c,W.heap[k]? = some (Obj.map e c)) → W'.heap[k]? = W.heap[k]?:=by
  rintro k (⟨vs,t,z,e⟩ | ⟨e,c,e'⟩)
  ·rw [h.cells _ _ _ _ e,e]
  ·rw [h.map _ _ _ e',e']
 have hc:∀ x,g.S x → W'.cell? x = W.cell? x:=fun x hx => by
  obtain ⟨hs,v,hv⟩:=H.st x hx
  exact World.cell?_of_block (hk _ (.inl (cell_cells hs hv)))
 refine ⟨⟨⟨fun id b hb => blkOK_same (gh:=g) (gh':=g) (m:=m) (m':=m) (fun _ h => h) hc (fun id hid => ⟨hid,rfl⟩) (by rw [hb]; simp) (fun hl k hgk => hk k (blk_obj H hno hb hl hgk)) (H.blk id b hb),H.inj,H.sep,fun x hx => ?_⟩,fun k cs hK => ?_⟩,?_⟩
 ·obtain ⟨hs,v,hv⟩:=H.st x hx
  exact ⟨hs,v,by rw [hc x hx]; exact hv⟩
 ·obtain ⟨⟨e,fz,h1⟩,h2⟩:=H.gr k cs hK
  exact ⟨⟨e,fz,h.cells _ _ _ _ h1⟩,h2⟩
 ·exact ⟨h.os.trans T.os,h.tape.trans T.tape,h.output.trans T.output,Nat.le_trans T.size h.size,fun k hk' hn => by
   rw [h.low k (Nat.lt_of_lt_of_le hk' hB) (Nat.lt_of_lt_of_le hk' T.size)]; exact T.same k hk' hn,T.S,fun x hx => by
   rw [hc x (T.S x hx)]; exact T.scell x hx,T.newS,T.ids,T.pin,Nat.le_trans T.drawn h.drawn,T.K⟩
theorem aside_cell {B:Nat} {g:Gh} {m:Mem} {W W':World} (H:HeapOK g m W) (h:Aside B W W'):∀ x,g.S x → W'.cell? x = W.cell? x:=fun x hx => by
 obtain ⟨hs,v,hv⟩:=H.st x hx
 obtain ⟨vs,t,z,e⟩:=cell_cells hs hv
 exact World.cell?_of_block (by rw [h.cells _ _ _ _ e,e])
def flatC:AC → Bool
 | .c .str _ => true
 | .c (.int _) _ => true
 | .c .bool _ => true
 | _ => false
theorem repCs_flat {gh gh':Gh} {m m':Mem} {w w':World} {l:List AC} {vs:List Value} (hl:l.all flatC = true) (h:RepCs gh m w l vs):RepCs gh' m' w' l vs:=by
 refine all2_of_mem (fun a ha v hv => ?_) h
 have:=List.all_eq_true.1 hl a ha
 unfold flatC at this
 split at this
 ·exact hv
 ·exact hv
 ·exact hv
 ·cases this
theorem other_same {g0:Gh} {m0:Mem} {W0:World} {g:Gh} {m:Mem} {W:World} (H:HeapOK g0 m0 W0) (hno:∀ id s p,m0 id ≠ some (.it s p)) (T:Tr g0 m0 W0 g m W) {l:Nat} {o:Obj} (hl:W0.heap[l]? = some o) (h1:∀ vs t z,o ≠ .cells vs t z) (h2:∀ e c,o ≠ .map e c):W.heap[l]? = some o:=by
 rw [T.same l (Array.getElem?_eq_some_iff.1 hl).1 fun id b hb hlv hk => ?_,hl]
 rcases blk_obj H hno hb hlv hk with ⟨vs,t,z,e⟩ | ⟨e,c,e'⟩
 ·rw [hl] at e; cases e; exact h1 _ _ _ rfl
 ·rw [hl] at e'; cases e'; exact h2 _ _ rfl
theorem tr_aside {g0:Gh} {W0:World} {g:Gh} {m:Mem} {W:World} (B:Nat) (T:Tr g0 (fun _ => none) W0 g m W):Aside B W0 W:=by
 have h:∀ k,k < W0.heap.size → W.heap[k]? = W0.heap[k]?:=fun k hk => T.same k hk fun id b hb => by cases hb
 exact ⟨T.os,T.tape,T.output,T.drawn,T.size,fun k vs t z e => (h k (Array.getElem?_eq_some_iff.1 e).1).trans e,fun k _ _ e => (h k (Array.getElem?_eq_some_iff.1 e).1).trans e,fun k _ hk => h k hk⟩
theorem tr_join {g0:Gh} {m0:Mem} {w0:World} {g:Gh} {m:Mem} {w:World} {g1:Gh} {m1:Mem} {g2:Gh} {m2:Mem} {w2:World} (h:Tr g0 m0 w0 g m w) (hS:g1.S = g.S) (hK:g1.K = g.K)
  (hids:∀ id b,m1 id = some b → b.live = true → ∀ k,g1.blk id = some k → w0.heap.size ≤ k ∨ ∃ j c,m0 j = some c ∧ c.live = true ∧ g0.blk j = some k)
  (k:Tr g1 m1 w g2 m2 w2) (hpin:∀ id,pin id = true → m2 id ≠ none → m0 id ≠ none ∧ g2.val id = g0.val id):Tr g0 m0 w0 g2 m2 w2 where
 os:=k.os.trans h.os
 tape:=k.tape.trans h.tape
 output:=k.output.trans h.output
 size:=Nat.le_trans h.size k.size
 same:=fun i hi hn => by
  rw [k.same i (Nat.lt_of_lt_of_le hi h.size) (fun id b h1 h2 h3 => ?_),h.same i hi hn]
  rcases hids id b h1 h2 i h3 with h4 | ⟨j,c,h4,h5,h6⟩
  ·omega
  ·exact hn j c h4 h5 h6
 S:=fun x hx => k.S _ (by rw [hS]; exact h.S _ hx)
 scell:=fun x hx => (k.scell _ (by rw [hS]; exact h.S _ hx)).trans (h.scell _ hx)
 newS:=fun x hx => by
  rcases k.newS x hx with h1 | h1 | ⟨id,b,h1,h2,h3⟩
  ·rw [hS] at h1; exact h.newS x h1
  ·exact .inr (.inl (Nat.le_trans h.size h1))
  ·rcases hids id b h1 h2 _ h3 with h4 | h4
   ·exact .inr (.inl h4)
   ·exact .inr (.inr h4)
 ids:=fun id b h1 h2 i h3 => by
  rcases k.ids id b h1 h2 i h3 with h4 | ⟨j,c,h4,h5,h6⟩
  ·exact .inl (Nat.le_trans h.size h4)
  ·exact hids j c h4 h5 i h6
 pin:=hpin
 drawn:=Nat.le_trans h.drawn k.drawn
 K:=k.K.trans (hK.trans h.K)
theorem run_callyield {P:Program} {o:Oper} {c:Call} {l:Nat} {x:Operand} (ho:o.op = .call c) (hc:c.callee = .value x) (a:Act) (he:a.eval x = .func (.yield l) #[] #[]) (w:World) :
  (execOp a.eval o).run P w = (Instr.yield l (c.args.map a.eval)).run P w:=by
 simp only [execOp,ho,Sem.run_bind,resolve,hc,he,Deferred.ofValue,Sem.run_pure,Result.andThen_ok,invoke]
 simp
def opsOf:Code → Array Oper
 | .region _ ops _ => ops
 | _ => #[]
def rangeOf:Code → Code × Code
 | .rangeFunc _ _ a b => (a,b)
 | .block _ c => rangeOf c
 | .seq a b => rangeOf b
 | _ => (.skip,.skip)
end Go.Vx
