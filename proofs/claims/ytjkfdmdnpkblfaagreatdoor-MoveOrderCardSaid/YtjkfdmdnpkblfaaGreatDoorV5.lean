import Derived.Test.YtjkfdmdnpkblfaaGreatDoorV3
import Derived.Test.YtjkfdmdnpkblfaaGreatDoorV4
import Derived.KernelRfl
set_option linter.unusedSimpArgs false
namespace Go.Vx.Z
noncomputable section
open Go Go.Vx Go.Proofs
set_option linter.unusedVariables false
set_option maxRecDepth 1000000
set_option maxHeartbeats 4000000

abbrev sh159:Shape:=⟨[(0,.one (.own 100000))],[(100000,.lst 185 r9 false)]⟩
abbrev out159:Shape:=⟨[(0,.one (.d (.list r8)))],[(100000,.lst 185 r9 false)]⟩
noncomputable def b159:Code:=Tryz.f159.body.getD .skip
abbrev sh159_0:Shape:=⟨[(3,.one (.own 200000)),(14,.one (.os 100000 12)),(15,oI),(16,oI)],[(100000,.lst 185 r9 false),(200000,.lst 185 r9 false)]⟩
abbrev os159_0:List (XE × Shape):=[(.ex 0,⟨[(3,.one (.own 200000))],[(100000,.lst 185 r9 false),(200000,.lst 185 r9 false)]⟩)]
noncomputable def cx159_0:Cx:=⟨Tryz.prog,[e102,e209,e211,e213],[53,54],84,[],[]⟩
def B159_0:Rnd (Nat × Nat × Int × Int × List R9 × List R9 × Unit) (List R9 × List R9 × Unit):=round cx159_0 (sub [1,1,1,1,0,1,0,0] b159) sh159_0 os159_0
def ce159_0:CE:=⟨sh159_0,os159_0,loop B159_0⟩
theorem okc159_0:CEOK Tryz.prog 84 (.at (.loop (sub [1,1,1,1,0,1,0,0] b159))) ce159_0:=ck cx159_0 ⟨ok102,ok209,ok211,ok213,trivial⟩ [] trivial
abbrev sh159_1:Shape:=⟨[(7,.one (.own 200000)),(56,.one (.own 200001)),(57,oI),(58,oI)],[(100000,.lst 185 r9 false),(200000,.lst 207 r8 true),(200001,.lst 185 r9 false)]⟩
abbrev os159_1:List (XE × Shape):=[(.ex 2,⟨[(7,.one (.own 200000))],[(100000,.lst 185 r9 false),(200000,.lst 207 r8 true)]⟩)]
noncomputable def cx159_1:Cx:=⟨Tryz.prog,[e102,e209,e211,e213],[53,54],84,[(10,ce159_0)],[]⟩
def B159_1:Rnd (Int × Int × List R9 × List R8 × List R9 × Unit) (List R9 × List R8 × Unit):=round cx159_1 (sub [1,1,1,1,1,1,0,1,0,0] b159) sh159_1 os159_1
def ce159_1:CE:=⟨sh159_1,os159_1,loop B159_1⟩
theorem okc159_1:CEOK Tryz.prog 84 (.at (.loop (sub [1,1,1,1,1,1,0,1,0,0] b159))) ce159_1:=ck cx159_1 ⟨ok102,ok209,ok211,ok213,trivial⟩ [] trivial
noncomputable def cx159:Cx:=⟨Tryz.prog,[e102,e209,e211,e213],[53,54],84,[(10,ce159_0),(30,ce159_1)],[]⟩
def F159:List R9 × Unit → Option (List R8 × List R9 × Unit):=func cx159 Tryz.f159 b159 sh159 out159
def e159:FE:=⟨159,sh159,out159,F159⟩
theorem ok159:FEOK Tryz.prog e159:=fk cx159 ⟨ok102,ok209,ok211,ok213,trivial⟩ [((.at (.loop (sub [1,1,1,1,0,1,0,0] b159))),ce159_0),((.at (.loop (sub [1,1,1,1,1,1,0,1,0,0] b159))),ce159_1)] ⟨okc159_0,okc159_1,trivial⟩
abbrev sh157:Shape:=⟨[(0,.row [dI,dI,dI,dS,dB,dB]),(1,.row [dI,dI,dI,dS,dB,dB])],[]⟩
abbrev out157:Shape:=⟨[(0,.one (.d (.list r8)))],[]⟩
noncomputable def b157:Code:=Tryz.f157.body.getD .skip
noncomputable def cx157:Cx:=⟨Tryz.prog,[e159],(List.range 10),10,[],[]⟩
def F157:Int × Int × Int × ByteArray × Bool × Bool × Int × Int × Int × ByteArray × Bool × Bool × Unit → Option (List R8 × Unit):=func cx157 Tryz.f157 b157 sh157 out157
def e157:FE:=⟨157,sh157,out157,F157⟩
theorem ok157:FEOK Tryz.prog e157:=fk cx157 ⟨ok159,trivial⟩ [] trivial
abbrev sh207:Shape:=⟨[(0,oS)],[]⟩
abbrev out207:Shape:=⟨[(0,.one (.d (.list r8))),(1,oB)],[]⟩
noncomputable def b207:Code:=Tryz.f207.body.getD .skip
abbrev sh207_0:Shape:=⟨[(7,.one (.d (.list .str))),(8,.one (.ptr 200000 0)),(37,.one (.d (.list .str))),(38,oI),(39,oI)],[(200000,.box 300 [dI,dI])]⟩
abbrev os207_0:List (XE × Shape):=[(.ret,⟨[(2,.one (.nilS)),(3,oB)],[]⟩),(.ex 0,⟨[(7,.one (.d (.list .str))),(8,.one (.ptr 200000 0))],[(200000,.box 300 [dI,dI])]⟩)]
noncomputable def cx207_0:Cx:=⟨Tryz.prog,[e90,e136,e146,e157,e249,e250],[],72,[],[]⟩
def B207_0:Rnd (List ByteArray × List ByteArray × Int × Int × Int × Int × Unit) ((Bool × Unit) ⊕ (List ByteArray × Int × Int × Unit)):=round cx207_0 (sub [1,1,1,1,1,1,0,1,0,0] b207) sh207_0 os207_0
def ce207_0:CE:=⟨sh207_0,os207_0,loop B207_0⟩
theorem okc207_0:CEOK Tryz.prog 72 (.at (.loop (sub [1,1,1,1,1,1,0,1,0,0] b207))) ce207_0:=ck cx207_0 ⟨ok90,ok136,ok146,ok157,ok249,ok250,trivial⟩ [] trivial
noncomputable def cx207:Cx:=⟨Tryz.prog,[e90,e136,e146,e157,e249,e250],[],72,[(16,ce207_0)],[]⟩
def F207:ByteArray × Unit → Option (List R8 × Bool × Unit):=func cx207 Tryz.f207 b207 sh207 out207
def e207:FE:=⟨207,sh207,out207,F207⟩
theorem ok207:FEOK Tryz.prog e207:=fk cx207 ⟨ok90,ok136,ok146,ok157,ok249,ok250,trivial⟩ [((.at (.loop (sub [1,1,1,1,1,1,0,1,0,0] b207))),ce207_0)] ⟨okc207_0,trivial⟩
abbrev sh251:Shape:=⟨[(0,.one (.d (.list r8)))],[]⟩
abbrev out251:Shape:=⟨[(0,.one (.d (.list r8)))],[]⟩
noncomputable def b251:Code:=Tryz.f251.body.getD .skip
abbrev sh251_0:Shape:=⟨[(3,.one (.ptr 200000 0)),(4,.one (.own 200001)),(10,.one (.own 200002)),(11,oI),(12,oI)],[(200000,.box 183 [dI,dI,dI,dS,dB,dB]),(200001,.lst 185 r9 false),(200002,.lst 185 r9 false)]⟩
abbrev os251_0:List (XE × Shape):=[(.ex 0,⟨[(3,.one (.ptr 200000 0)),(4,.one (.own 200001))],[(200000,.box 183 [dI,dI,dI,dS,dB,dB]),(200001,.lst 185 r9 false)]⟩)]
noncomputable def cx251_0:Cx:=⟨Tryz.prog,[e100,e159,e204],(List.range 33),33,[],[]⟩
def B251_0:Rnd (Int × Int × Int × Int × Int × ByteArray × Bool × Bool × List R9 × List R9 × Unit) (Int × Int × Int × ByteArray × Bool × Bool × List R9 × Unit):=round cx251_0 (sub [1,1,1,0,1,0,0] b251) sh251_0 os251_0
def ce251_0:CE:=⟨sh251_0,os251_0,loop B251_0⟩
theorem okc251_0:CEOK Tryz.prog 33 (.at (.loop (sub [1,1,1,0,1,0,0] b251))) ce251_0:=ck cx251_0 ⟨ok100,ok159,ok204,trivial⟩ [] trivial
noncomputable def cx251:Cx:=⟨Tryz.prog,[e100,e159,e204],(List.range 33),33,[(8,ce251_0)],[]⟩
def F251:List R8 × Unit → Option (List R8 × Unit):=func cx251 Tryz.f251 b251 sh251 out251
def e251:FE:=⟨251,sh251,out251,F251⟩
theorem ok251:FEOK Tryz.prog e251:=fk cx251 ⟨ok100,ok159,ok204,trivial⟩ [((.at (.loop (sub [1,1,1,0,1,0,0] b251))),ce251_0)] ⟨okc251_0,trivial⟩
abbrev sh208:Shape:=⟨[(0,oS)],[]⟩
abbrev out208:Shape:=⟨[(0,.one (.d (.list r8))),(1,oB)],[]⟩
noncomputable def b208:Code:=Tryz.f208.body.getD .skip
noncomputable def cx208:Cx:=⟨Tryz.prog,[e91,e157,e241,e250,e251,e252,e253,e254],[],73,[],[]⟩
def F208:ByteArray × Unit → Option (List R8 × Bool × Unit):=func cx208 Tryz.f208 b208 sh208 out208
def e208:FE:=⟨208,sh208,out208,F208⟩
theorem ok208:FEOK Tryz.prog e208:=fk cx208 ⟨ok91,ok157,ok241,ok250,ok251,ok252,ok253,ok254,trivial⟩ [] trivial
abbrev sh156:Shape:=⟨[(0,oS)],[]⟩
abbrev out156:Shape:=⟨[(0,.one (.d (.list r8))),(1,oB)],[]⟩
noncomputable def b156:Code:=Tryz.f156.body.getD .skip
noncomputable def cx156:Cx:=⟨Tryz.prog,[e154,e207,e208],[],20,[],[]⟩
def F156:ByteArray × Unit → Option (List R8 × Bool × Unit):=func cx156 Tryz.f156 b156 sh156 out156
def e156:FE:=⟨156,sh156,out156,F156⟩
theorem ok156:FEOK Tryz.prog e156:=fk cx156 ⟨ok154,ok207,ok208,trivial⟩ [] trivial
abbrev sh158:Shape:=⟨[(0,.one (.d (.list r8))),(1,.one (.d (.list r8)))],[]⟩
abbrev out158:Shape:=⟨[(0,.one (.d (.list r8)))],[]⟩
noncomputable def b158:Code:=Tryz.f158.body.getD .skip
abbrev sh158_0:Shape:=⟨[(1,.one (.d (.list r8))),(5,.one (.own 200000)),(7,.one (.ptr 200001 0)),(12,.one (.own 200002)),(13,oI),(14,oI),(19,.one (.own 200003)),(20,oI),(21,oI)],[(200000,.lst 185 r9 false),(200001,.box 185 [dI,dI,dI,dS,dB,dB,dI,dI,dI,dS,dB,dB]),(200002,.lst 185 r9 false),(200003,.lst 185 r9 false)]⟩
abbrev os158_0:List (XE × Shape):=[(.ex 2,⟨[(1,.one (.d (.list r8))),(5,.one (.own 200000)),(12,.one (.own 200001)),(13,oI),(14,oI)],[(200000,.lst 185 r9 false),(200001,.lst 185 r9 false)]⟩)]
noncomputable def cx158_0:Cx:=⟨Tryz.prog,[e100,e102,e159],[46,47],52,[],[]⟩
def B158_0:Rnd (List R8 × Int × Int × Int × Int × List R9 × Int × Int × Int × ByteArray × Bool × Bool × Int × Int × Int × ByteArray × Bool × Bool × List R9 × List R9 × Unit) (List R8 × Int × Int × List R9 × List R9 × Unit):=round cx158_0 (sub [1,1,0,1,0,0,1,1,0,0,1,1,0,0] b158) sh158_0 os158_0
def ce158_0:CE:=⟨sh158_0,os158_0,loop B158_0⟩
theorem okc158_0:CEOK Tryz.prog 52 (.at (.loop (sub [1,1,0,1,0,0,1,1,0,0,1,1,0,0] b158))) ce158_0:=ck cx158_0 ⟨ok100,ok102,ok159,trivial⟩ [] trivial
abbrev sh158_1:Shape:=⟨[(1,.one (.d (.list r8))),(5,.one (.own 200000)),(12,.one (.own 200001)),(13,oI),(14,oI)],[(200000,.lst 185 r9 false),(200001,.lst 185 r9 false)]⟩
abbrev os158_1:List (XE × Shape):=[(.ex 0,⟨[(5,.one (.own 200000))],[(200000,.lst 185 r9 false)]⟩)]
noncomputable def cx158_1:Cx:=⟨Tryz.prog,[e100,e102,e159],[46,47],52,[(12,ce158_0)],[]⟩
def B158_1:Rnd (List R8 × Int × Int × List R9 × List R9 × Unit) (List R9 × Unit):=round cx158_1 (sub [1,1,0,1,0,0] b158) sh158_1 os158_1
def ce158_1:CE:=⟨sh158_1,os158_1,loop B158_1⟩
theorem okc158_1:CEOK Tryz.prog 52 (.at (.loop (sub [1,1,0,1,0,0] b158))) ce158_1:=ck cx158_1 ⟨ok100,ok102,ok159,trivial⟩ [((.at (.loop (sub [1,1,0,1,0,0,1,1,0,0,1,1,0,0] b158))),ce158_0)] ⟨okc158_0,trivial⟩
noncomputable def cx158:Cx:=⟨Tryz.prog,[e100,e102,e159],[46,47],52,[(12,ce158_0),(6,ce158_1)],[]⟩
def F158:List R8 × List R8 × Unit → Option (List R8 × Unit):=func cx158 Tryz.f158 b158 sh158 out158
def e158:FE:=⟨158,sh158,out158,F158⟩
theorem ok158:FEOK Tryz.prog e158:=fk cx158 ⟨ok100,ok102,ok159,trivial⟩ [((.at (.loop (sub [1,1,0,1,0,0] b158))),ce158_1)] ⟨okc158_1,trivial⟩
abbrev sh96:Shape:=⟨[(0,.one (.ptr 100000 0))],[(100000,.box 176 [.ptr 100001 0,dS,dS,dI]),(100001,.box 238 [dS,dI])]⟩
abbrev out96:Shape:=⟨[(0,.one (.d (.list r8))),(1,oB)],[(100000,.box 176 [.ptr 100001 0,dS,dS,dI]),(100001,.box 238 [dS,dI])]⟩
noncomputable def b96:Code:=Tryz.f96.body.getD .skip
abbrev sh96_0:Shape:=⟨[(0,.one (.ptr 100000 0)),(4,.one (.d (.list r8))),(5,oB),(6,oI)],[(100000,.box 176 [.ptr 100001 0,dS,dS,dI]),(100001,.box 238 [dS,dI])]⟩
abbrev os96_0:List (XE × Shape):=[(.ret,⟨[(2,.one (.d (.list r8))),(3,oB)],[(100000,.box 176 [.ptr 100001 0,dS,dS,dI]),(100001,.box 238 [dS,dI])]⟩),(.ex 0,⟨[],[(100000,.box 176 [.ptr 100001 0,dS,dS,dI]),(100001,.box 238 [dS,dI])]⟩)]
noncomputable def cx96_0:Cx:=⟨Tryz.prog,[e91,e154,e155,e156,e157,e158],[],76,[],[]⟩
def B96_0:Rnd (List R8 × Bool × Int × ByteArray × ByteArray × Int × ByteArray × Int × Unit) ((List R8 × Bool × ByteArray × ByteArray × Int × ByteArray × Int × Unit) ⊕ (ByteArray × ByteArray × Int × ByteArray × Int × Unit)):=round cx96_0 (sub [1,1,1,0,1,0,0] b96) sh96_0 os96_0
def ce96_0:CE:=⟨sh96_0,os96_0,loop B96_0⟩
theorem okc96_0:CEOK Tryz.prog 76 (.at (.loop (sub [1,1,1,0,1,0,0] b96))) ce96_0:=ck cx96_0 ⟨ok91,ok154,ok155,ok156,ok157,ok158,trivial⟩ [] trivial
noncomputable def cx96:Cx:=⟨Tryz.prog,[e91,e154,e155,e156,e157,e158],[],76,[(8,ce96_0)],[]⟩
def F96:ByteArray × ByteArray × Int × ByteArray × Int × Unit → Option (List R8 × Bool × ByteArray × ByteArray × Int × ByteArray × Int × Unit):=func cx96 Tryz.f96 b96 sh96 out96
def e96:FE:=⟨96,sh96,out96,F96⟩
theorem ok96:FEOK Tryz.prog e96:=fk cx96 ⟨ok91,ok154,ok155,ok156,ok157,ok158,trivial⟩ [((.at (.loop (sub [1,1,1,0,1,0,0] b96))),ce96_0)] ⟨okc96_0,trivial⟩
abbrev sh97:Shape:=⟨[(0,.one (.d (.list (.list r8))))],[]⟩
abbrev out97:Shape:=⟨[(0,.one (.d (.list r8)))],[]⟩
noncomputable def b97:Code:=Tryz.f97.body.getD .skip
noncomputable def cx97:Cx:=⟨Tryz.prog,[e100v1,e159,e160],[],7,[],[]⟩
def F97:List (List R8) × Unit → Option (List R8 × Unit):=func cx97 Tryz.f97 b97 sh97 out97
def e97:FE:=⟨97,sh97,out97,F97⟩
theorem ok97:FEOK Tryz.prog e97:=fk cx97 ⟨ok100v1,ok159,ok160,trivial⟩ [] trivial
abbrev sh62:Shape:=⟨[(0,oS)],[]⟩
abbrev out62:Shape:=⟨[(0,.one (.d (.list r8))),(1,oI),(2,oI)],[]⟩
noncomputable def b62:Code:=Tryz.f62.body.getD .skip
abbrev sh62_0:Shape:=⟨[(0,oS),(5,.one (.ptr 200000 0)),(6,.one (.d (.list r8)))],[(200000,.box 176 [.ptr 200001 0,dS,dS,dI]),(200001,.box 238 [dS,dI])]⟩
abbrev os62_0:List (XE × Shape):=[(.ret,⟨[(2,.one (.d (.list r8))),(3,oI),(4,oI)],[]⟩)]
noncomputable def cx62_0:Cx:=⟨Tryz.prog,[e95,e96,e97,e98],[],48,[],[]⟩
def B62_0:Rnd (ByteArray × List R8 × ByteArray × ByteArray × Int × ByteArray × Int × Unit) (List R8 × Int × Int × Unit):=round cx62_0 (sub [1,1,1,0,0] b62) sh62_0 os62_0
def ce62_0:CE:=⟨sh62_0,os62_0,loop B62_0⟩
theorem okc62_0:CEOK Tryz.prog 48 (.at (.loop (sub [1,1,1,0,0] b62))) ce62_0:=ck cx62_0 ⟨ok95,ok96,ok97,ok98,trivial⟩ [] trivial
noncomputable def cx62:Cx:=⟨Tryz.prog,[e95,e96,e97,e98],[],48,[(6,ce62_0)],[]⟩
def F62:ByteArray × Unit → Option (List R8 × Int × Int × Unit):=func cx62 Tryz.f62 b62 sh62 out62
def e62:FE:=⟨62,sh62,out62,F62⟩
theorem ok62:FEOK Tryz.prog e62:=fk cx62 ⟨ok95,ok96,ok97,ok98,trivial⟩ [((.at (.loop (sub [1,1,1,0,0] b62))),ce62_0)] ⟨okc62_0,trivial⟩
abbrev sh33:Shape:=⟨[(0,.row [dS,dS,dS,dS,dS]),(1,.row [dI,dI,dI,dS])],[]⟩
abbrev out33:Shape:=⟨[(0,oB)],[]⟩
noncomputable def b33:Code:=Tryz.f33.body.getD .skip
noncomputable def cx33:Cx:=⟨Tryz.prog,[e62,e63],[],26,[],[]⟩
def F33:ByteArray × ByteArray × ByteArray × ByteArray × ByteArray × Int × Int × Int × ByteArray × Unit → Option (Bool × Unit):=func cx33 Tryz.f33 b33 sh33 out33
def e33:FE:=⟨33,sh33,out33,F33⟩
theorem ok33:FEOK Tryz.prog e33:=fk cx33 ⟨ok62,ok63,trivial⟩ [] trivial
abbrev sh12:Shape:=⟨[(0,.row [.d (.list r2),.d (.list r3)]),(1,oS),(2,.one (.d (.list r7)))],[]⟩
abbrev out12:Shape:=⟨[(0,.one (.d (.list r6))),(1,.one (.d (.list r10)))],[]⟩
noncomputable def b12:Code:=Tryz.f12.body.getD .skip
abbrev sh12_0:Shape:=⟨[(1,oS),(3,.one (.ptr 200000 0)),(8,.one (.own 200001)),(9,.one (.own 200002)),(17,.one (.d (.list r7))),(18,oI),(19,oI)],[(200000,.box 27 [.d (.list r2),.d (.list r3)]),(200001,.lst 64 r6 false),(200002,.lst 49 r10 false)]⟩
abbrev os12_0:List (XE × Shape):=[(.ex 0,⟨[(8,.one (.own 200000)),(9,.one (.own 200001))],[(200000,.lst 64 r6 false),(200001,.lst 49 r10 false)]⟩)]
noncomputable def cx12_0:Cx:=⟨Tryz.prog,[e31,e32v1,e32,e33,e34,e37,e38],(List.range 94),94,[],[]⟩
def B12_0:Rnd (ByteArray × List R7 × Int × Int × List R2 × List R3 × List R6 × List R10 × Unit) (List R6 × List R10 × Unit):=round cx12_0 (sub [1,1,1,0,1,0,0] b12) sh12_0 os12_0
def ce12_0:CE:=⟨sh12_0,os12_0,loop B12_0⟩
theorem okc12_0:CEOK Tryz.prog 94 (.at (.loop (sub [1,1,1,0,1,0,0] b12))) ce12_0:=ck cx12_0 ⟨ok31,ok32v1,ok32,ok33,ok34,ok37,ok38,trivial⟩ [] trivial
noncomputable def cx12:Cx:=⟨Tryz.prog,[e31,e32v1,e32,e33,e34,e37,e38],(List.range 94),94,[(8,ce12_0)],[]⟩
def F12:List R2 × List R3 × ByteArray × List R7 × Unit → Option (List R6 × List R10 × Unit):=func cx12 Tryz.f12 b12 sh12 out12
def e12:FE:=⟨12,sh12,out12,F12⟩
theorem ok12:FEOK Tryz.prog e12:=fk cx12 ⟨ok31,ok32v1,ok32,ok33,ok34,ok37,ok38,trivial⟩ [((.at (.loop (sub [1,1,1,0,1,0,0] b12))),ce12_0)] ⟨okc12_0,trivial⟩
abbrev sh128:Shape:=⟨[(0,.row [dS,.d (.list r0),.d (.list r0),.d (.list r4),.d (.list r2),.d (.list r3)]),(1,.row [dS,dI,dI,dI,dS])],[]⟩
abbrev out128:Shape:=⟨[(0,.one (.d (.list r0))),(1,oI)],[]⟩
noncomputable def b128:Code:=Tryz.f128.body.getD .skip
noncomputable def cx128:Cx:=⟨Tryz.prog,[e94,e121,e122,e127,e132,e184],[],56,[],[]⟩
def F128:ByteArray × List R0 × List R0 × List R4 × List R2 × List R3 × ByteArray × Int × Int × Int × ByteArray × Unit → Option (List R0 × Int × Unit):=func cx128 Tryz.f128 b128 sh128 out128
def e128:FE:=⟨128,sh128,out128,F128⟩
theorem ok128:FEOK Tryz.prog e128:=fk cx128 ⟨ok94,ok121,ok122,ok127,ok132,ok184,trivial⟩ [] trivial
abbrev sh76:Shape:=⟨[(0,.row [dS,.d (.list r0),.d (.list r0),.d (.list r4),.d (.list r2),.d (.list r3)])],[]⟩
abbrev out76:Shape:=⟨[(0,.one (.d (.list r0))),(1,oI)],[]⟩
noncomputable def b76:Code:=Tryz.f76.body.getD .skip
abbrev sh76_0:Shape:=⟨[(1,.one (.ptr 200000 0)),(4,.one (.own 200001)),(5,oI),(6,.one (.mp 200002)),(7,.one (.own 200003)),(8,oI)],[(200000,.box 147 [dS,.d (.list r0),.d (.list r0),.d (.list r4),.d (.list r2),.d (.list r3)]),(200001,.lst 68 r0 false),(200002,.mp r0),(200003,.lst 68 r0 true)]⟩
abbrev os76_0:List (XE × Shape):=[(.ex 0,⟨[(5,oI),(7,.one (.own 200000))],[(200000,.lst 68 r0 true)]⟩)]
noncomputable def cx76_0:Cx:=⟨Tryz.prog,[e127,e128],[52],57,[],[]⟩
def B76_0:Rnd (Int × Int × ByteArray × List R0 × List R0 × List R4 × List R2 × List R3 × List R0 × List (R0 × Bool) × List R0 × Unit) (Int × List R0 × Unit):=round cx76_0 (sub [1,1,1,1,0,1,0,0] b76) sh76_0 os76_0
def ce76_0:CE:=⟨sh76_0,os76_0,loop B76_0⟩
theorem okc76_0:CEOK Tryz.prog 57 (.at (.loop (sub [1,1,1,1,0,1,0,0] b76))) ce76_0:=ck cx76_0 ⟨ok127,ok128,trivial⟩ [] trivial
noncomputable def cx76:Cx:=⟨Tryz.prog,[e127,e128],[52],57,[(10,ce76_0)],[]⟩
def F76:ByteArray × List R0 × List R0 × List R4 × List R2 × List R3 × Unit → Option (List R0 × Int × Unit):=func cx76 Tryz.f76 b76 sh76 out76
def e76:FE:=⟨76,sh76,out76,F76⟩
theorem ok76:FEOK Tryz.prog e76:=fk cx76 ⟨ok127,ok128,trivial⟩ [((.at (.loop (sub [1,1,1,1,0,1,0,0] b76))),ce76_0)] ⟨okc76_0,trivial⟩
abbrev sh129:Shape:=⟨[(0,.one (.clo 186 [some (100000,0)])),(1,.one (.fn 131))],[(100000,.box 57 [.d (.list r0)])]⟩
abbrev out129:Shape:=⟨[(0,.one (.own 200000))],[(100000,.box 57 [.d (.list r0)]),(200000,.lst 68 r0 false)]⟩
noncomputable def b129:Code:=Tryz.f129.body.getD .skip
noncomputable def cx129:Cx:=⟨Tryz.prog,[e184,e185],[],12,[],[]⟩
def F129:List R0 × Unit → Option (List R0 × List R0 × Unit):=func cx129 Tryz.f129 b129 sh129 out129
def e129:FE:=⟨129,sh129,out129,F129⟩
theorem ok129:FEOK Tryz.prog e129:=fk cx129 ⟨ok184,ok185,trivial⟩ [] trivial
abbrev sh77:Shape:=⟨[(0,.row [dS,.d (.list r0),.d (.list r0),.d (.list r4),.d (.list r2),.d (.list r3)]),(1,.one (.d (.list r0)))],[]⟩
abbrev out77:Shape:=⟨[(0,.one (.d (.list r6)))],[]⟩
noncomputable def b77:Code:=Tryz.f77.body.getD .skip
abbrev sh77_0:Shape:=⟨[(1,.one (.own 200000)),(2,.one (.ptr 200001 0)),(5,.one (.own 200002)),(13,.one (.own 200000)),(14,oI),(15,oI)],[(200000,.lst 68 r0 false),(200001,.box 147 [dS,.d (.list r0),.d (.list r0),.d (.list r4),.d (.list r2),.d (.list r3)]),(200002,.lst 105 r6 true)]⟩
abbrev os77_0:List (XE × Shape):=[(.ex 0,⟨[(5,.one (.own 200000))],[(200000,.lst 105 r6 true)]⟩)]
noncomputable def cx77_0:Cx:=⟨Tryz.prog,[e129,e130,e132,e133],[],59,[],[]⟩
def B77_0:Rnd (Int × Int × List R0 × ByteArray × List R0 × List R0 × List R4 × List R2 × List R3 × List R6 × Unit) (List R6 × Unit):=round cx77_0 (sub [1,1,1,0,1,0,0] b77) sh77_0 os77_0
def ce77_0:CE:=⟨sh77_0,os77_0,loop B77_0⟩
theorem okc77_0:CEOK Tryz.prog 59 (.at (.loop (sub [1,1,1,0,1,0,0] b77))) ce77_0:=ck cx77_0 ⟨ok129,ok130,ok132,ok133,trivial⟩ [] trivial
noncomputable def cx77:Cx:=⟨Tryz.prog,[e129,e130,e132,e133],[],59,[(8,ce77_0)],[]⟩
def F77:ByteArray × List R0 × List R0 × List R4 × List R2 × List R3 × List R0 × Unit → Option (List R6 × Unit):=func cx77 Tryz.f77 b77 sh77 out77
def e77:FE:=⟨77,sh77,out77,F77⟩
theorem ok77:FEOK Tryz.prog e77:=fk cx77 ⟨ok129,ok130,ok132,ok133,trivial⟩ [((.at (.loop (sub [1,1,1,0,1,0,0] b77))),ce77_0)] ⟨okc77_0,trivial⟩
abbrev sh43:Shape:=⟨[(0,.row [.d (.list r2),.d (.list r3)]),(1,.row [dS,.d (.list r0),.d (.list r0),.d (.list r4)])],[]⟩
abbrev out43:Shape:=⟨[(0,.one (.d (.list r6))),(1,oI)],[]⟩
noncomputable def b43:Code:=Tryz.f43.body.getD .skip
noncomputable def cx43:Cx:=⟨Tryz.prog,[e75,e76,e77],[],23,[],[]⟩
def F43:List R2 × List R3 × ByteArray × List R0 × List R0 × List R4 × Unit → Option (List R6 × Int × Unit):=func cx43 Tryz.f43 b43 sh43 out43
def e43:FE:=⟨43,sh43,out43,F43⟩
theorem ok43:FEOK Tryz.prog e43:=fk cx43 ⟨ok75,ok76,ok77,trivial⟩ [] trivial
abbrev sh21:Shape:=⟨[(0,.row [.d (.list r2),.d (.list r3)]),(1,oS),(2,.one (.d (.list r6)))],[]⟩
abbrev out21:Shape:=⟨[(0,.row [dS,.d (.list r0),.d (.list r0),.d (.list r4)]),(1,oB)],[]⟩
noncomputable def b21:Code:=Tryz.f21.body.getD .skip
abbrev sh21_0:Shape:=⟨[(2,.one (.d (.list r6))),(3,.one (.ptr 200000 0)),(6,.one (.ptr 200001 0)),(8,.one (.ptr 200002 0)),(20,.one (.d (.list r6))),(21,oI),(22,oI)],[(200000,.box 27 [.d (.list r2),.d (.list r3)]),(200001,.box 71 [dS,.nilS,.nilS,.nilS]),(200002,.box 71 [dS,.own 200003,.nilS,.own 200004]),(200003,.lst 68 r0 true),(200004,.lst 100 r4 true)]⟩
abbrev os21_0:List (XE × Shape):=[(.ex 0,⟨[(2,.one (.d (.list r6))),(3,.one (.ptr 200000 0)),(6,.one (.ptr 200001 0)),(8,.one (.ptr 200002 0))],[(200000,.box 27 [.d (.list r2),.d (.list r3)]),(200001,.box 71 [dS,.nilS,.nilS,.nilS]),(200002,.box 71 [dS,.own 200003,.nilS,.own 200004]),(200003,.lst 68 r0 true),(200004,.lst 100 r4 true)]⟩)]
noncomputable def cx21_0:Cx:=⟨Tryz.prog,[e42,e43,e44,e45],[],111,[],[]⟩
def B21_0:Rnd (List R6 × List R6 × Int × Int × List R2 × List R3 × ByteArray × ByteArray × List R0 × List R4 × Unit) (List R6 × List R2 × List R3 × ByteArray × ByteArray × List R0 × List R4 × Unit):=round cx21_0 (sub [1,1,0,1,0,0] b21) sh21_0 os21_0
def ce21_0:CE:=⟨sh21_0,os21_0,loop B21_0⟩
theorem okc21_0:CEOK Tryz.prog 111 (.at (.loop (sub [1,1,0,1,0,0] b21))) ce21_0:=ck cx21_0 ⟨ok42,ok43,ok44,ok45,trivial⟩ [] trivial
abbrev sh21_1:Shape:=⟨[(2,.one (.d (.list r6))),(3,.one (.ptr 200000 0)),(6,.one (.ptr 200001 0)),(8,.one (.ptr 200002 0)),(11,.one (.d (.list r6))),(13,oI),(66,.one (.d (.list r6))),(67,oI),(68,oI)],[(200000,.box 27 [.d (.list r2),.d (.list r3)]),(200001,.box 71 [dS,.nilS,.nilS,.nilS]),(200002,.box 71 [dS,.own 200003,.own 200004,.own 200005]),(200003,.lst 68 r0 true),(200004,.lst 68 r0 true),(200005,.lst 100 r4 true)]⟩
abbrev os21_1:List (XE × Shape):=[(.ex 4,⟨[(2,.one (.d (.list r6))),(3,.one (.ptr 200000 0)),(6,.one (.ptr 200001 0)),(8,.one (.ptr 200002 0)),(13,oI)],[(200000,.box 27 [.d (.list r2),.d (.list r3)]),(200001,.box 71 [dS,.nilS,.nilS,.nilS]),(200002,.box 71 [dS,.own 200003,.own 200004,.own 200005]),(200003,.lst 68 r0 true),(200004,.lst 68 r0 true),(200005,.lst 100 r4 true)]⟩)]
noncomputable def cx21_1:Cx:=⟨Tryz.prog,[e42,e43,e44,e45],[],111,[(6,ce21_0)],[]⟩
def B21_1:Rnd (List R6 × List R6 × Int × List R6 × Int × Int × List R2 × List R3 × ByteArray × ByteArray × List R0 × List R0 × List R4 × Unit) (List R6 × Int × List R2 × List R3 × ByteArray × ByteArray × List R0 × List R0 × List R4 × Unit):=round cx21_1 (sub [1,1,1,0,0,0,1,1,1,1,0,1,0,0] b21) sh21_1 os21_1
def ce21_1:CE:=⟨sh21_1,os21_1,loop B21_1⟩
theorem okc21_1:CEOK Tryz.prog 111 (.at (.loop (sub [1,1,1,0,0,0,1,1,1,1,0,1,0,0] b21))) ce21_1:=ck cx21_1 ⟨ok42,ok43,ok44,ok45,trivial⟩ [] trivial
abbrev sh21_2:Shape:=⟨[(2,.one (.d (.list r6))),(3,.one (.ptr 200000 0)),(6,.one (.ptr 200001 0)),(8,.one (.ptr 200002 0))],[(200000,.box 27 [.d (.list r2),.d (.list r3)]),(200001,.box 71 [dS,.nilS,.nilS,.nilS]),(200002,.box 71 [dS,.own 200003,.own 200004,.own 200005]),(200003,.lst 68 r0 true),(200004,.lst 68 r0 true),(200005,.lst 100 r4 true)]⟩
abbrev os21_2:List (XE × Shape):=[(.ret,⟨[(6,.one (.ptr 200000 0)),(7,oB)],[(200000,.box 71 [dS,.own 200001,.own 200002,.own 200003]),(200001,.lst 68 r0 true),(200002,.lst 68 r0 true),(200003,.lst 100 r4 true)]⟩)]
noncomputable def cx21_2:Cx:=⟨Tryz.prog,[e42,e43,e44,e45],[],111,[(6,ce21_0),(30,ce21_1)],[]⟩
def B21_2:Rnd (List R6 × List R2 × List R3 × ByteArray × ByteArray × List R0 × List R0 × List R4 × Unit) (Bool × ByteArray × List R0 × List R0 × List R4 × Unit):=round cx21_2 (sub [1,1,1,0,0] b21) sh21_2 os21_2
def ce21_2:CE:=⟨sh21_2,os21_2,loop B21_2⟩
theorem okc21_2:CEOK Tryz.prog 111 (.at (.loop (sub [1,1,1,0,0] b21))) ce21_2:=ck cx21_2 ⟨ok42,ok43,ok44,ok45,trivial⟩ [((.at (.loop (sub [1,1,1,0,0,0,1,1,1,1,0,1,0,0] b21))),ce21_1)] ⟨okc21_1,trivial⟩
noncomputable def cx21:Cx:=⟨Tryz.prog,[e42,e43,e44,e45],[],111,[(6,ce21_0),(30,ce21_1),(18,ce21_2)],[]⟩
def F21:List R2 × List R3 × ByteArray × List R6 × Unit → Option (ByteArray × List R0 × List R0 × List R4 × Bool × Unit):=func cx21 Tryz.f21 b21 sh21 out21
def e21:FE:=⟨21,sh21,out21,F21⟩
theorem ok21:FEOK Tryz.prog e21:=fk cx21 ⟨ok42,ok43,ok44,ok45,trivial⟩ [((.at (.loop (sub [1,1,0,1,0,0] b21))),ce21_0),((.at (.loop (sub [1,1,1,0,0] b21))),ce21_2)] ⟨okc21_0,okc21_2,trivial⟩
abbrev sh23:Shape:=⟨[(0,.row [.d (.list r2),.d (.list r3)]),(1,.row [dS,.d (.list r0),.d (.list r0),.d (.list r4)]),(2,.one (.d (.list r6)))],[]⟩
abbrev out23:Shape:=⟨[(0,oB)],[]⟩
noncomputable def b23:Code:=Tryz.f23.body.getD .skip
noncomputable def cx23:Cx:=⟨Tryz.prog,[e43,e55],[],21,[],[]⟩
def F23:List R2 × List R3 × ByteArray × List R0 × List R0 × List R4 × List R6 × Unit → Option (Bool × Unit):=func cx23 Tryz.f23 b23 sh23 out23
def e23:FE:=⟨23,sh23,out23,F23⟩
theorem ok23:FEOK Tryz.prog e23:=fk cx23 ⟨ok43,ok55,trivial⟩ [] trivial
abbrev sh46:Shape:=⟨[(0,.row [dS,.d (.list r0),.d (.list r0),.d (.list r4)]),(1,.one (.ptr 100000 0)),(2,.one (.ptr 100001 0))],[(100000,.box 27 [.d (.list r2),.d (.list r3)]),(100001,.box 31 [.d (.list r6)])]⟩
abbrev out46:Shape:=⟨[(0,oB)],[(100000,.box 27 [.d (.list r2),.d (.list r3)]),(100001,.box 31 [.d (.list r6)])]⟩
noncomputable def b46:Code:=Tryz.f46.body.getD .skip
noncomputable def cx46:Cx:=⟨Tryz.prog,[e23],[],9,[],[]⟩
def F46:ByteArray × List R0 × List R0 × List R4 × List R2 × List R3 × List R6 × Unit → Option (Bool × List R2 × List R3 × List R6 × Unit):=func cx46 Tryz.f46 b46 sh46 out46
def e46:FE:=⟨46,sh46,out46,F46⟩
theorem ok46:FEOK Tryz.prog e46:=fk cx46 ⟨ok23,trivial⟩ [] trivial
abbrev sh49:Shape:=⟨[(0,.row [dS,.d (.list r0),.d (.list r0),.d (.list r4)]),(1,.one (.fn 50)),(2,.one (.clo 46 [some (100000,0),some (100001,0)]))],[(100000,.box 27 [.d (.list r2),.d (.list r3)]),(100001,.box 31 [.d (.list r6)])]⟩
abbrev out49:Shape:=⟨[(0,.row [dS,.d (.list r0),.d (.list r0),.d (.list r4)]),(1,oB)],[(100000,.box 27 [.d (.list r2),.d (.list r3)]),(100001,.box 31 [.d (.list r6)])]⟩
noncomputable def b49:Code:=Tryz.f49.body.getD .skip
abbrev sh49_0:Shape:=⟨[(1,.one (.fn 50)),(2,.one (.clo 46 [some (100000,0),some (100001,0)])),(3,.one (.ptr 200000 0)),(6,.one (.ptr 200001 0)),(8,oB),(9,oI)],[(100000,.box 27 [.d (.list r2),.d (.list r3)]),(100001,.box 31 [.d (.list r6)]),(200000,.box 71 [dS,.d (.list r0),.d (.list r0),.d (.list r4)]),(200001,.box 71 [dS,.nilS,.nilS,.nilS])]⟩
abbrev os49_0:List (XE × Shape):=[(.ex 0,⟨[(3,.one (.ptr 200000 0)),(6,.one (.ptr 200001 0)),(8,oB)],[(100000,.box 27 [.d (.list r2),.d (.list r3)]),(100001,.box 31 [.d (.list r6)]),(200000,.box 71 [dS,.d (.list r0),.d (.list r0),.d (.list r4)]),(200001,.box 71 [dS,.nilS,.nilS,.nilS])]⟩)]
noncomputable def cx49_0:Cx:=⟨Tryz.prog,[e46,e50,e81],[],37,[],[]⟩
def B49_0:Rnd (Bool × Int × List R2 × List R3 × List R6 × ByteArray × List R0 × List R0 × List R4 × ByteArray × Unit) (Bool × List R2 × List R3 × List R6 × ByteArray × List R0 × List R0 × List R4 × ByteArray × Unit):=round cx49_0 (sub [1,1,0,1,0,0] b49) sh49_0 os49_0
def ce49_0:CE:=⟨sh49_0,os49_0,loop B49_0⟩
theorem okc49_0:CEOK Tryz.prog 37 (.at (.loop (sub [1,1,0,1,0,0] b49))) ce49_0:=ck cx49_0 ⟨ok46,ok50,ok81,trivial⟩ [] trivial
noncomputable def cx49:Cx:=⟨Tryz.prog,[e46,e50,e81],[],37,[(6,ce49_0)],[]⟩
def F49:ByteArray × List R0 × List R0 × List R4 × List R2 × List R3 × List R6 × Unit → Option (ByteArray × List R0 × List R0 × List R4 × Bool × List R2 × List R3 × List R6 × Unit):=func cx49 Tryz.f49 b49 sh49 out49
def e49:FE:=⟨49,sh49,out49,F49⟩
theorem ok49:FEOK Tryz.prog e49:=fk cx49 ⟨ok46,ok50,ok81,trivial⟩ [((.at (.loop (sub [1,1,0,1,0,0] b49))),ce49_0)] ⟨okc49_0,trivial⟩
abbrev sh49v1:Shape:=⟨[(0,.row [dS,.d (.list r0),.d (.list r0),.d (.list r4)]),(1,.one (.fn 51)),(2,.one (.clo 46 [some (100000,0),some (100001,0)]))],[(100000,.box 27 [.d (.list r2),.d (.list r3)]),(100001,.box 31 [.d (.list r6)])]⟩
abbrev out49v1:Shape:=⟨[(0,.row [dS,.d (.list r0),.d (.list r0),.d (.list r4)]),(1,oB)],[(100000,.box 27 [.d (.list r2),.d (.list r3)]),(100001,.box 31 [.d (.list r6)])]⟩
noncomputable def b49v1:Code:=Tryz.f49.body.getD .skip
abbrev sh49v1_0:Shape:=⟨[(1,.one (.fn 51)),(2,.one (.clo 46 [some (100000,0),some (100001,0)])),(3,.one (.ptr 200000 0)),(6,.one (.ptr 200001 0)),(8,oB),(9,oI)],[(100000,.box 27 [.d (.list r2),.d (.list r3)]),(100001,.box 31 [.d (.list r6)]),(200000,.box 71 [dS,.d (.list r0),.d (.list r0),.d (.list r4)]),(200001,.box 71 [dS,.nilS,.nilS,.nilS])]⟩
abbrev os49v1_0:List (XE × Shape):=[(.ex 0,⟨[(3,.one (.ptr 200000 0)),(6,.one (.ptr 200001 0)),(8,oB)],[(100000,.box 27 [.d (.list r2),.d (.list r3)]),(100001,.box 31 [.d (.list r6)]),(200000,.box 71 [dS,.d (.list r0),.d (.list r0),.d (.list r4)]),(200001,.box 71 [dS,.nilS,.nilS,.nilS])]⟩)]
noncomputable def cx49v1_0:Cx:=⟨Tryz.prog,[e46,e51,e81],[],37,[],[]⟩
def B49v1_0:Rnd (Bool × Int × List R2 × List R3 × List R6 × ByteArray × List R0 × List R0 × List R4 × ByteArray × Unit) (Bool × List R2 × List R3 × List R6 × ByteArray × List R0 × List R0 × List R4 × ByteArray × Unit):=round cx49v1_0 (sub [1,1,0,1,0,0] b49v1) sh49v1_0 os49v1_0
def ce49v1_0:CE:=⟨sh49v1_0,os49v1_0,loop B49v1_0⟩
theorem okc49v1_0:CEOK Tryz.prog 37 (.at (.loop (sub [1,1,0,1,0,0] b49v1))) ce49v1_0:=ck cx49v1_0 ⟨ok46,ok51,ok81,trivial⟩ [] trivial
noncomputable def cx49v1:Cx:=⟨Tryz.prog,[e46,e51,e81],[],37,[(6,ce49v1_0)],[]⟩
def F49v1:ByteArray × List R0 × List R0 × List R4 × List R2 × List R3 × List R6 × Unit → Option (ByteArray × List R0 × List R0 × List R4 × Bool × List R2 × List R3 × List R6 × Unit):=func cx49v1 Tryz.f49 b49v1 sh49v1 out49v1
def e49v1:FE:=⟨49,sh49v1,out49v1,F49v1⟩
theorem ok49v1:FEOK Tryz.prog e49v1:=fk cx49v1 ⟨ok46,ok51,ok81,trivial⟩ [((.at (.loop (sub [1,1,0,1,0,0] b49v1))),ce49v1_0)] ⟨okc49v1_0,trivial⟩
abbrev sh52:Shape:=⟨[(0,.row [dS,.d (.list r0),.d (.list r0),.d (.list r4)]),(1,.one (.fn 53)),(2,.one (.clo 46 [some (100000,0),some (100001,0)]))],[(100000,.box 27 [.d (.list r2),.d (.list r3)]),(100001,.box 31 [.d (.list r6)])]⟩
abbrev out52:Shape:=⟨[(0,.row [dS,.d (.list r0),.d (.list r0),.d (.list r4)]),(1,oB)],[(100000,.box 27 [.d (.list r2),.d (.list r3)]),(100001,.box 31 [.d (.list r6)])]⟩
noncomputable def b52:Code:=Tryz.f52.body.getD .skip
abbrev sh52_0:Shape:=⟨[(1,.one (.fn 53)),(2,.one (.clo 46 [some (100000,0),some (100001,0)])),(3,.one (.ptr 200000 0)),(6,.one (.ptr 200001 0)),(8,oB),(9,oI)],[(100000,.box 27 [.d (.list r2),.d (.list r3)]),(100001,.box 31 [.d (.list r6)]),(200000,.box 71 [dS,.d (.list r0),.d (.list r0),.d (.list r4)]),(200001,.box 71 [dS,.nilS,.nilS,.nilS])]⟩
abbrev os52_0:List (XE × Shape):=[(.ex 0,⟨[(3,.one (.ptr 200000 0)),(6,.one (.ptr 200001 0)),(8,oB)],[(100000,.box 27 [.d (.list r2),.d (.list r3)]),(100001,.box 31 [.d (.list r6)]),(200000,.box 71 [dS,.d (.list r0),.d (.list r0),.d (.list r4)]),(200001,.box 71 [dS,.nilS,.nilS,.nilS])]⟩)]
noncomputable def cx52_0:Cx:=⟨Tryz.prog,[e46,e53,e82],[],37,[],[]⟩
def B52_0:Rnd (Bool × Int × List R2 × List R3 × List R6 × ByteArray × List R0 × List R0 × List R4 × ByteArray × Unit) (Bool × List R2 × List R3 × List R6 × ByteArray × List R0 × List R0 × List R4 × ByteArray × Unit):=round cx52_0 (sub [1,1,0,1,0,0] b52) sh52_0 os52_0
def ce52_0:CE:=⟨sh52_0,os52_0,loop B52_0⟩
theorem okc52_0:CEOK Tryz.prog 37 (.at (.loop (sub [1,1,0,1,0,0] b52))) ce52_0:=ck cx52_0 ⟨ok46,ok53,ok82,trivial⟩ [] trivial
noncomputable def cx52:Cx:=⟨Tryz.prog,[e46,e53,e82],[],37,[(6,ce52_0)],[]⟩
def F52:ByteArray × List R0 × List R0 × List R4 × List R2 × List R3 × List R6 × Unit → Option (ByteArray × List R0 × List R0 × List R4 × Bool × List R2 × List R3 × List R6 × Unit):=func cx52 Tryz.f52 b52 sh52 out52
def e52:FE:=⟨52,sh52,out52,F52⟩
theorem ok52:FEOK Tryz.prog e52:=fk cx52 ⟨ok46,ok53,ok82,trivial⟩ [((.at (.loop (sub [1,1,0,1,0,0] b52))),ce52_0)] ⟨okc52_0,trivial⟩
abbrev sh22:Shape:=⟨[(0,.row [.d (.list r2),.d (.list r3)]),(1,.row [dS,.d (.list r0),.d (.list r0),.d (.list r4)]),(2,.one (.d (.list r6)))],[]⟩
abbrev out22:Shape:=⟨[(0,.row [dS,.d (.list r0),.d (.list r0),.d (.list r4)])],[]⟩
noncomputable def b22:Code:=Tryz.f22.body.getD .skip
abbrev sh22_0:Shape:=⟨[(4,.one (.ptr 200000 0)),(6,.one (.ptr 200001 0)),(7,.one (.clo 46 [some (200002,0),some (200003,0)])),(8,oB)],[(200000,.box 71 [dS,.d (.list r0),.d (.list r0),.d (.list r4)]),(200001,.box 71 [dS,.nilS,.nilS,.nilS]),(200002,.box 27 [.d (.list r2),.d (.list r3)]),(200003,.box 31 [.d (.list r6)])]⟩
abbrev os22_0:List (XE × Shape):=[(.ex 0,⟨[(4,.one (.ptr 200000 0)),(6,.one (.ptr 200001 0))],[(200000,.box 71 [dS,.d (.list r0),.d (.list r0),.d (.list r4)]),(200001,.box 71 [dS,.nilS,.nilS,.nilS])]⟩)]
noncomputable def cx22_0:Cx:=⟨Tryz.prog,[e47,e48,e49,e49v1,e52,e54],[],50,[],[]⟩
def B22_0:Rnd (Bool × ByteArray × List R0 × List R0 × List R4 × ByteArray × List R2 × List R3 × List R6 × Unit) (ByteArray × List R0 × List R0 × List R4 × ByteArray × Unit):=round cx22_0 (sub [1,1,1,0,1,0,0] b22) sh22_0 os22_0
def ce22_0:CE:=⟨sh22_0,os22_0,loop B22_0⟩
theorem okc22_0:CEOK Tryz.prog 50 (.at (.loop (sub [1,1,1,0,1,0,0] b22))) ce22_0:=ck cx22_0 ⟨ok47,ok48,ok49,ok49v1,ok52,ok54,trivial⟩ [] trivial
noncomputable def cx22:Cx:=⟨Tryz.prog,[e47,e48,e49,e49v1,e52,e54],[],50,[(8,ce22_0)],[]⟩
def F22:List R2 × List R3 × ByteArray × List R0 × List R0 × List R4 × List R6 × Unit → Option (ByteArray × List R0 × List R0 × List R4 × Unit):=func cx22 Tryz.f22 b22 sh22 out22
def e22:FE:=⟨22,sh22,out22,F22⟩
theorem ok22:FEOK Tryz.prog e22:=fk cx22 ⟨ok47,ok48,ok49,ok49v1,ok52,ok54,trivial⟩ [((.at (.loop (sub [1,1,1,0,1,0,0] b22))),ce22_0)] ⟨okc22_0,trivial⟩
abbrev sh12v1:Shape:=⟨[(0,.row [.d (.list r2),.d (.list r3)]),(1,oS),(2,.one (.own 100000))],[(100000,.lst 44 r7 false)]⟩
abbrev out12v1:Shape:=⟨[(0,.one (.d (.list r6))),(1,.one (.d (.list r10)))],[(100000,.lst 44 r7 false)]⟩
noncomputable def b12v1:Code:=Tryz.f12.body.getD .skip
abbrev sh12v1_0:Shape:=⟨[(1,oS),(3,.one (.ptr 200000 0)),(8,.one (.own 200001)),(9,.one (.own 200002)),(17,.one (.own 100000)),(18,oI),(19,oI)],[(100000,.lst 44 r7 false),(200000,.box 27 [.d (.list r2),.d (.list r3)]),(200001,.lst 64 r6 false),(200002,.lst 49 r10 false)]⟩
abbrev os12v1_0:List (XE × Shape):=[(.ex 0,⟨[(8,.one (.own 200000)),(9,.one (.own 200001))],[(100000,.lst 44 r7 false),(200000,.lst 64 r6 false),(200001,.lst 49 r10 false)]⟩)]
noncomputable def cx12v1_0:Cx:=⟨Tryz.prog,[e31,e32v1,e32,e33,e34,e37,e38],(List.range 94),94,[],[]⟩
def B12v1_0:Rnd (ByteArray × Int × Int × List R7 × List R2 × List R3 × List R6 × List R10 × Unit) (List R7 × List R6 × List R10 × Unit):=round cx12v1_0 (sub [1,1,1,0,1,0,0] b12v1) sh12v1_0 os12v1_0
def ce12v1_0:CE:=⟨sh12v1_0,os12v1_0,loop B12v1_0⟩
theorem okc12v1_0:CEOK Tryz.prog 94 (.at (.loop (sub [1,1,1,0,1,0,0] b12v1))) ce12v1_0:=ck cx12v1_0 ⟨ok31,ok32v1,ok32,ok33,ok34,ok37,ok38,trivial⟩ [] trivial
noncomputable def cx12v1:Cx:=⟨Tryz.prog,[e31,e32v1,e32,e33,e34,e37,e38],(List.range 94),94,[(8,ce12v1_0)],[]⟩
def F12v1:List R2 × List R3 × ByteArray × List R7 × Unit → Option (List R6 × List R10 × List R7 × Unit):=func cx12v1 Tryz.f12 b12v1 sh12v1 out12v1
def e12v1:FE:=⟨12,sh12v1,out12v1,F12v1⟩
theorem ok12v1:FEOK Tryz.prog e12v1:=fk cx12v1 ⟨ok31,ok32v1,ok32,ok33,ok34,ok37,ok38,trivial⟩ [((.at (.loop (sub [1,1,1,0,1,0,0] b12v1))),ce12v1_0)] ⟨okc12v1_0,trivial⟩
end
end Go.Vx.Z
/-! known: piece by piece. -/
namespace Go.Vx.Z
open Go Go.Vx Go.Proofs
set_option maxRecDepth 1000000
set_option maxHeartbeats 4000000
def knW:List R2:=[(lit [97],[(1,0,0,lit [],[],lit [],lit [],()),(1,1,0,lit [],[],lit [],lit [],())],()),(lit [98],[(1,0,0,lit [],[(lit [97],1,1,0,lit [],())],lit [],lit [],())],())]
def knX:List R6:=[(lit [97],1,0,0,lit [],lit [],0,0,0,lit [],()),(lit [98],1,0,0,lit [],lit [],0,0,0,lit [],())]
def knR:List R0:=[(lit [97],1,0,0,lit [],()),(lit [98],1,0,0,lit [],())]
def knE:List R0:=[(lit [97],1,1,0,lit [],())]
def knL:List R7:=[(lit [97,47,120],lit [118,49,46,48,46,48],lit [],lit [],lit [],()),(lit [98],lit [118,49,46,48,46,48],lit [],lit [],lit [],())]
theorem kn_none:F12 (knW,[],lit [109],[],()) = some ([],[],()):=by kernel_rfl
theorem kn_two:F12 (knW,[],lit [109],knL,()) = some (knX,[],()):=by kernel_rfl
theorem kn_holds:F23 (knW,[],lit [109],knR,knE,[],knX,()) = some (true,()):=by kernel_rfl
end Go.Vx.Z
/-! known: piece by piece. -/
namespace Go.Vx.Z
open Go Go.Vx Go.Proofs
set_option maxRecDepth 1000000
set_option maxHeartbeats 4000000
theorem kn_make:F21 (knW,[],lit [109],knX,()) = some (lit [109],knR,knE,[],true,()):=by kernel_rfl
end Go.Vx.Z
/-! known: piece by piece. -/
namespace Go.Vx.Z
open Go Go.Vx Go.Proofs
set_option maxRecDepth 1000000
set_option maxHeartbeats 4000000
theorem kn_least:F22 (knW,[],lit [109],knR,knE,[],knX,()) = some (lit [109],[(lit [98],1,0,0,lit [],())],knE,[],()):=by kernel_rfl
end Go.Vx.Z
/-! known's calls, as tables. -/
namespace Go.Vx.Z
open Go Go.Vx Go.Proofs
set_option maxRecDepth 1000000
set_option maxHeartbeats 4000000
instance decBA:DecidableEq ByteArray:=fun a b => if h:bs a = bs b then isTrue (bs_inj h) else isFalse (fun e => h (e ▸ rfl))
instance dqR7:DecidableEq R7:=(@instDecidableEqProd _ _ decBA (@instDecidableEqProd _ _ decBA (@instDecidableEqProd _ _ decBA (@instDecidableEqProd _ _ decBA (@instDecidableEqProd _ _ decBA instDecidableEqPUnit)))))
instance dqR3:DecidableEq R3:=(@instDecidableEqProd _ _ decBA (@instDecidableEqProd _ _ decBA (@instDecidableEqProd _ _ instDecidableEqBool (@instDecidableEqProd _ _ instDecidableEqBool (@instDecidableEqProd _ _ Int.instDecidableEq (@instDecidableEqProd _ _ Int.instDecidableEq (@instDecidableEqProd _ _ Int.instDecidableEq (@instDecidableEqProd _ _ decBA (@instDecidableEqProd _ _ Int.instDecidableEq instDecidableEqPUnit)))))))))
instance dqR0:DecidableEq R0:=(@instDecidableEqProd _ _ decBA (@instDecidableEqProd _ _ Int.instDecidableEq (@instDecidableEqProd _ _ Int.instDecidableEq (@instDecidableEqProd _ _ Int.instDecidableEq (@instDecidableEqProd _ _ decBA instDecidableEqPUnit)))))
instance dqR1:DecidableEq R1:=(@instDecidableEqProd _ _ Int.instDecidableEq (@instDecidableEqProd _ _ Int.instDecidableEq (@instDecidableEqProd _ _ Int.instDecidableEq (@instDecidableEqProd _ _ decBA (@instDecidableEqProd _ _ (@List.hasDecEq _ dqR0) (@instDecidableEqProd _ _ decBA (@instDecidableEqProd _ _ decBA instDecidableEqPUnit)))))))
instance dqR2:DecidableEq R2:=(@instDecidableEqProd _ _ decBA (@instDecidableEqProd _ _ (@List.hasDecEq _ dqR1) instDecidableEqPUnit))
instance dqR6:DecidableEq R6:=(@instDecidableEqProd _ _ decBA (@instDecidableEqProd _ _ Int.instDecidableEq (@instDecidableEqProd _ _ Int.instDecidableEq (@instDecidableEqProd _ _ Int.instDecidableEq (@instDecidableEqProd _ _ decBA (@instDecidableEqProd _ _ decBA (@instDecidableEqProd _ _ Int.instDecidableEq (@instDecidableEqProd _ _ Int.instDecidableEq (@instDecidableEqProd _ _ Int.instDecidableEq (@instDecidableEqProd _ _ decBA instDecidableEqPUnit))))))))))
instance dqR4:DecidableEq R4:=(@instDecidableEqProd _ _ decBA (@instDecidableEqProd _ _ decBA (@instDecidableEqProd _ _ Int.instDecidableEq (@instDecidableEqProd _ _ Int.instDecidableEq (@instDecidableEqProd _ _ Int.instDecidableEq (@instDecidableEqProd _ _ decBA instDecidableEqPUnit))))))
instance dqT0:DecidableEq (List R2 × List R3 × ByteArray × List R7 × Unit):=(@instDecidableEqProd _ _ (@List.hasDecEq _ dqR2) (@instDecidableEqProd _ _ (@List.hasDecEq _ dqR3) (@instDecidableEqProd _ _ decBA (@instDecidableEqProd _ _ (@List.hasDecEq _ dqR7) instDecidableEqPUnit))))
instance dqT1:DecidableEq (List R2 × List R3 × ByteArray × List R6 × Unit):=(@instDecidableEqProd _ _ (@List.hasDecEq _ dqR2) (@instDecidableEqProd _ _ (@List.hasDecEq _ dqR3) (@instDecidableEqProd _ _ decBA (@instDecidableEqProd _ _ (@List.hasDecEq _ dqR6) instDecidableEqPUnit))))
instance dqT2:DecidableEq (List R2 × List R3 × ByteArray × List R0 × List R0 × List R4 × List R6 × Unit):=(@instDecidableEqProd _ _ (@List.hasDecEq _ dqR2) (@instDecidableEqProd _ _ (@List.hasDecEq _ dqR3) (@instDecidableEqProd _ _ decBA (@instDecidableEqProd _ _ (@List.hasDecEq _ dqR0) (@instDecidableEqProd _ _ (@List.hasDecEq _ dqR0) (@instDecidableEqProd _ _ (@List.hasDecEq _ dqR4) (@instDecidableEqProd _ _ (@List.hasDecEq _ dqR6) instDecidableEqPUnit)))))))
instance dqT3:DecidableEq (List R2 × List R3 × ByteArray × List R0 × List R0 × List R4 × List R6 × Unit):=(@instDecidableEqProd _ _ (@List.hasDecEq _ dqR2) (@instDecidableEqProd _ _ (@List.hasDecEq _ dqR3) (@instDecidableEqProd _ _ decBA (@instDecidableEqProd _ _ (@List.hasDecEq _ dqR0) (@instDecidableEqProd _ _ (@List.hasDecEq _ dqR0) (@instDecidableEqProd _ _ (@List.hasDecEq _ dqR4) (@instDecidableEqProd _ _ (@List.hasDecEq _ dqR6) instDecidableEqPUnit)))))))
theorem tab1 {α β:Type} [DecidableEq α] {F:α → Option β} {i:α} {o:β} {rest:Option β} {p:α} {r:β} (k:F i = some o) (hrest:rest = some r → F p = some r) (h:(if p = i then some o else rest) = some r):F p = some r:=by
 split at h
 ·rename_i e; rw [e]; exact k.trans h
 ·exact hrest h
theorem tab0 {α β:Type} {F:α → Option β} {p:α} {r:β} (h:(none:Option β) = some r):F p = some r:=by cases h
noncomputable def F12c:List R2 × List R3 × ByteArray × List R7 × Unit → Option (List R6 × List R10 × Unit):=fun p => if p = (knW,[],lit [109],[],()) then some ([],[],()) else if p = (knW,[],lit [109],knL,()) then some (knX,[],()) else none
noncomputable def e12c:FE:=⟨12,sh12,out12,F12c⟩
theorem F12c_le (p:List R2 × List R3 × ByteArray × List R7 × Unit) (r) (hr:F12c p = some r):F12 p = some r:=tab1 (F:=F12) kn_none (tab1 (F:=F12) kn_two (tab0 (F:=F12))) hr
theorem ok12c:FEOK Tryz.prog e12c:=fun p r hr => ok12 p r (F12c_le p r hr)
noncomputable def F21c:List R2 × List R3 × ByteArray × List R6 × Unit → Option (ByteArray × List R0 × List R0 × List R4 × Bool × Unit):=fun p => if p = (knW,[],lit [109],knX,()) then some (lit [109],knR,knE,[],true,()) else none
noncomputable def e21c:FE:=⟨21,sh21,out21,F21c⟩
theorem F21c_le (p:List R2 × List R3 × ByteArray × List R6 × Unit) (r) (hr:F21c p = some r):F21 p = some r:=tab1 (F:=F21) kn_make (tab0 (F:=F21)) hr
theorem ok21c:FEOK Tryz.prog e21c:=fun p r hr => ok21 p r (F21c_le p r hr)
noncomputable def F22c:List R2 × List R3 × ByteArray × List R0 × List R0 × List R4 × List R6 × Unit → Option (ByteArray × List R0 × List R0 × List R4 × Unit):=fun p => if p = (knW,[],lit [109],knR,knE,[],knX,()) then some (lit [109],[(lit [98],1,0,0,lit [],())],knE,[],()) else none
noncomputable def e22c:FE:=⟨22,sh22,out22,F22c⟩
theorem F22c_le (p:List R2 × List R3 × ByteArray × List R0 × List R0 × List R4 × List R6 × Unit) (r) (hr:F22c p = some r):F22 p = some r:=tab1 (F:=F22) kn_least (tab0 (F:=F22)) hr
theorem ok22c:FEOK Tryz.prog e22c:=fun p r hr => ok22 p r (F22c_le p r hr)
noncomputable def F23c:List R2 × List R3 × ByteArray × List R0 × List R0 × List R4 × List R6 × Unit → Option (Bool × Unit):=fun p => if p = (knW,[],lit [109],knR,knE,[],knX,()) then some (true,()) else none
noncomputable def e23c:FE:=⟨23,sh23,out23,F23c⟩
theorem F23c_of (F:sh23.D → Option out23.D) (k:F (knW,[],lit [109],knR,knE,[],knX,()) = some (true,())) (p:List R2 × List R3 × ByteArray × List R0 × List R0 × List R4 × List R6 × Unit) (r:Bool × Unit) (hr:F23c p = some r):F p = some r:=by
 unfold F23c at hr
 split at hr
 ·rename_i e
  rw [e]
  exact k.trans hr
 ·cases hr
theorem F23c_le (p:List R2 × List R3 × ByteArray × List R0 × List R0 × List R4 × List R6 × Unit) (r:Bool × Unit) (hr:F23c p = some r):F23 p = some r:=F23c_of F23 kn_holds p r hr
theorem ok23c:FEOK Tryz.prog e23c:=fun p r hr => ok23 p r (F23c_le p r hr)
end Go.Vx.Z
namespace Go.Vx.Z
noncomputable section
open Go Go.Vx Go.Proofs
set_option linter.unusedVariables false
set_option maxRecDepth 1000000
set_option maxHeartbeats 4000000

abbrev sh9:Shape:=⟨[],[]⟩
abbrev out9:Shape:=⟨[(0,oB)],[]⟩
noncomputable def b9:Code:=Tryz.f9.body.getD .skip
noncomputable def cx9:Cx:=⟨Tryz.prog,[e12c,e21c,e22c,e23c],[],92,[],[]⟩
def F9:Unit → Option (Bool × Unit):=func cx9 Tryz.f9 b9 sh9 out9
def e9:FE:=⟨9,sh9,out9,F9⟩
theorem ok9:FEOK Tryz.prog e9:=fk cx9 ⟨ok12c,ok21c,ok22c,ok23c,trivial⟩ [] trivial
end
end Go.Vx.Z
namespace Go.Vx
theorem fe_const {P:Go.Program} {f:Go.FuncId} {sh out:Shape} {F:sh.D → Option out.D} {r0:out.D} (h:FEOK P ⟨f,sh,out,F⟩) (hF:∀ p,F p = some r0):FEOK P ⟨f,sh,out,fun _ => some r0⟩:=fun p r hr => h p r ((hF p).trans hr)
namespace Z
open Go Go.Vx Go.Proofs
set_option maxRecDepth 1000000
set_option maxHeartbeats 4000000
theorem known_is:F9 () = some (true,()):=by kernel_rfl
noncomputable def e9k:FE:=⟨9,sh9,out9,fun _ => some (true,())⟩
theorem ok9k:FEOK Tryz.prog e9k:=fe_const (P:=Tryz.prog) (f:=9) (sh:=sh9) (out:=out9) (F:=F9) (r0:=(true,())) ok9 fun _ => known_is
end Z
end Go.Vx
namespace Go.Vx.Z
noncomputable section
open Go Go.Vx Go.Proofs
set_option linter.unusedVariables false
set_option maxRecDepth 1000000
set_option maxHeartbeats 4000000

abbrev sh3:Shape:=⟨[(0,oI),(1,.one (.d (.list (.int .i64)))),(2,.one (.d (.list (.int .i64)))),(3,oI)],[]⟩
abbrev out3:Shape:=⟨[(0,oB)],[]⟩
noncomputable def b3:Code:=Tryz.f3.body.getD .skip
noncomputable def cx3:Cx:=⟨Tryz.prog,[e9k,e10,e11,e12,e13,e14,e15,e16,e17],[],48,[],[]⟩
def F3:Int × List Int × List Int × Int × Unit → Option (Bool × Unit):=func cx3 Tryz.f3 b3 sh3 out3
def e3:FE:=⟨3,sh3,out3,F3⟩
abbrev sh4:Shape:=⟨[(0,oI),(1,.one (.d (.list (.int .i64)))),(2,.one (.d (.list (.int .i64)))),(3,oI)],[]⟩
abbrev out4:Shape:=⟨[(0,oB)],[]⟩
noncomputable def b4:Code:=Tryz.f4.body.getD .skip
abbrev sh4_0:Shape:=⟨[(9,.one (.ptr 200000 0)),(10,.one (.d (.list r7))),(12,.one (.d (.list r10))),(13,oI),(14,oI)],[(200000,.box 27 [.d (.list r2),.d (.list r3)])]⟩
abbrev os4_0:List (XE × Shape):=[(.ex 2,⟨[(9,.one (.ptr 200000 0)),(10,.one (.d (.list r7))),(12,.one (.d (.list r10))),(13,oI),(14,oI)],[(200000,.box 27 [.d (.list r2),.d (.list r3)])]⟩)]
noncomputable def cx4_0:Cx:=⟨Tryz.prog,[e9k,e10,e11,e12,e13,e14],[],123,[],[]⟩
def B4_0:Rnd (List R7 × List R10 × Int × Int × List R2 × List R3 × Unit) (List R7 × List R10 × Int × Int × List R2 × List R3 × Unit):=round cx4_0 (sub [1,1,1,1,1,0,1,0,0,1,0,0,1,0,0,0] b4) sh4_0 os4_0
def ce4_0:CE:=⟨sh4_0,os4_0,loop B4_0⟩
abbrev sh4_1:Shape:=⟨[(9,.one (.ptr 200000 0)),(10,.one (.d (.list r7))),(12,.one (.d (.list r10))),(13,oI)],[(200000,.box 27 [.d (.list r2),.d (.list r3)])]⟩
abbrev os4_1:List (XE × Shape):=[(.ret,⟨[(8,oB)],[]⟩),(.ex 0,⟨[],[]⟩)]
noncomputable def cx4_1:Cx:=⟨Tryz.prog,[e9k,e10,e11,e12,e13,e14],[],123,[(20,ce4_0)],[]⟩
def B4_1:Rnd (List R7 × List R10 × Int × List R2 × List R3 × Unit) ((Bool × Unit) ⊕ (Unit)):=round cx4_1 (sub [1,1,1,1,1,0,1,0,0] b4) sh4_1 os4_1
def ce4_1:CE:=⟨sh4_1,os4_1,loop B4_1⟩
noncomputable def cx4:Cx:=⟨Tryz.prog,[e9k,e10,e11,e12,e13,e14],[],123,[(20,ce4_0),(14,ce4_1)],[]⟩
def F4:Int × List Int × List Int × Int × Unit → Option (Bool × Unit):=func cx4 Tryz.f4 b4 sh4 out4
def e4:FE:=⟨4,sh4,out4,F4⟩
abbrev sh6:Shape:=⟨[(0,oI),(1,.one (.d (.list (.int .i64)))),(2,oI),(3,oI),(4,oI)],[]⟩
abbrev out6:Shape:=⟨[(0,oB)],[]⟩
noncomputable def b6:Code:=Tryz.f6.body.getD .skip
noncomputable def cx6:Cx:=⟨Tryz.prog,[e9k,e10,e12,e18,e19,e20],[],102,[],[]⟩
def F6:Int × List Int × Int × Int × Int × Unit → Option (Bool × Unit):=func cx6 Tryz.f6 b6 sh6 out6
def e6:FE:=⟨6,sh6,out6,F6⟩
abbrev sh7:Shape:=⟨[(0,oI),(1,.one (.d (.list (.int .i64)))),(2,oI),(3,oI),(4,oI)],[]⟩
abbrev out7:Shape:=⟨[(0,oB)],[]⟩
noncomputable def b7:Code:=Tryz.f7.body.getD .skip
noncomputable def cx7:Cx:=⟨Tryz.prog,[e9k,e10,e12,e18,e19,e20],[],117,[],[]⟩
def F7:Int × List Int × Int × Int × Int × Unit → Option (Bool × Unit):=func cx7 Tryz.f7 b7 sh7 out7
def e7:FE:=⟨7,sh7,out7,F7⟩
abbrev sh8:Shape:=⟨[(0,oI),(1,.one (.d (.list (.int .i64)))),(2,oI),(3,oI)],[]⟩
abbrev out8:Shape:=⟨[(0,oB)],[]⟩
noncomputable def b8:Code:=Tryz.f8.body.getD .skip
noncomputable def cx8:Cx:=⟨Tryz.prog,[e9k,e10,e12,e18,e19,e20],[],77,[],[]⟩
def F8:Int × List Int × Int × Int × Unit → Option (Bool × Unit):=func cx8 Tryz.f8 b8 sh8 out8
def e8:FE:=⟨8,sh8,out8,F8⟩
abbrev sh5:Shape:=⟨[(0,oI),(1,.one (.d (.list (.int .i64)))),(2,.one (.d (.list (.int .i64)))),(3,.one (.d (.list (.int .i64))))],[]⟩
abbrev out5:Shape:=⟨[(0,oB)],[]⟩
noncomputable def b5:Code:=Tryz.f5.body.getD .skip
abbrev sh5_0:Shape:=⟨[(3,.one (.d (.list (.int .i64)))),(9,.one (.ptr 200000 0)),(10,.one (.d (.list r7))),(11,.one (.own 200001)),(12,oI)],[(200000,.box 27 [.d (.list r2),.d (.list r3)]),(200001,.lst 44 r7 false)]⟩
abbrev os5_0:List (XE × Shape):=[(.ex 0,⟨[(9,.one (.ptr 200000 0)),(10,.one (.d (.list r7))),(11,.one (.own 200001))],[(200000,.box 27 [.d (.list r2),.d (.list r3)]),(200001,.lst 44 r7 false)]⟩)]
noncomputable def cx5_0:Cx:=⟨Tryz.prog,[e9k,e10,e11,e12v1,e12,e15,e16,e18],(List.range 101),101,[],[]⟩
def B5_0:Rnd (List Int × List R7 × Int × List R2 × List R3 × List R7 × Unit) (List R7 × List R2 × List R3 × List R7 × Unit):=round cx5_0 (sub [1,1,1,1,1,0,1,0,0] b5) sh5_0 os5_0
def ce5_0:CE:=⟨sh5_0,os5_0,loop B5_0⟩
theorem okc5_0:CEOK Tryz.prog 101 (.at (.loop (sub [1,1,1,1,1,0,1,0,0] b5))) ce5_0:=ck cx5_0 ⟨ok9k,ok10,ok11,ok12v1,ok12,ok15,ok16,ok18,trivial⟩ [] trivial
noncomputable def cx5:Cx:=⟨Tryz.prog,[e9k,e10,e11,e12v1,e12,e15,e16,e18],(List.range 101),101,[(14,ce5_0)],[]⟩
def F5:Int × List Int × List Int × List Int × Unit → Option (Bool × Unit):=func cx5 Tryz.f5 b5 sh5 out5
def e5:FE:=⟨5,sh5,out5,F5⟩
theorem ok5:FEOK Tryz.prog e5:=fk cx5 ⟨ok9k,ok10,ok11,ok12v1,ok12,ok15,ok16,ok18,trivial⟩ [((.at (.loop (sub [1,1,1,1,1,0,1,0,0] b5))),ce5_0)] ⟨okc5_0,trivial⟩
end
end Go.Vx.Z
/-! A module's swap, its release, its versions; what is excluded: as the program finds them. -/
namespace Go.Vx
open Go
set_option linter.unusedVariables false
theorem loop_first {P E α:Type} {B:P → Option (P ⊕ E)} (xs:List α) (st:Nat → P) (p:α → Bool) (hit:Nat → α → E) (miss:E)
  (hs:∀ i (h:i < xs.length),B (st i) = some (bif p xs[i] then .inr (hit i xs[i]) else .inl (st (i + 1)))) (he:B (st xs.length) = some (.inr miss)) :
  ∃ e,loop B (st 0) = some e ∧ ((xs.find? p = none ∧ e = miss) ∨ ∃ i x,xs.find? p = some x ∧ e = hit i x):=by
 have key:∀ (n i:Nat),xs.length - i = n → i ≤ xs.length → ∃ e,loop B (st i) = some e ∧ (((xs.drop i).find? p = none ∧ e = miss) ∨ ∃ j x,(xs.drop i).find? p = some x ∧ e = hit j x):=by
  intro n
  induction n with
  | zero =>
   intro i h1 h2
   have:i = xs.length:=by omega
   subst this
   exact ⟨miss,loop_end he,.inl ⟨by simp,rfl⟩⟩
  | succ n ih =>
   intro i h1 h2
   have hlt:i < xs.length:=by omega
   have hb:=hs i hlt
   rw [List.drop_eq_getElem_cons hlt,List.find?_cons]
   cases hp:p xs[i] with
   | true =>
    rw [hp] at hb
    exact ⟨_,loop_end hb,.inr ⟨i,xs[i],rfl,rfl⟩⟩
   | false =>
    rw [hp] at hb
    obtain ⟨e,h3,h4⟩:=ih (i + 1) (by omega) hlt
    exact ⟨e,loop_step hb h3,h4⟩
 have:=key xs.length 0 (by omega) (by omega)
 simpa using this
theorem loop_find {P E α:Type} {B:P → Option (P ⊕ E)} (xs:List α) (st:Nat → P) (p:α → Bool) (hit:α → E) (miss:E)
  (hs:∀ i (h:i < xs.length),B (st i) = some (bif p xs[i] then .inr (hit xs[i]) else .inl (st (i + 1)))) (he:B (st xs.length) = some (.inr miss)) :
  loop B (st 0) = some ((xs.find? p).elim miss hit):=by
 obtain ⟨e,h1,h2⟩:=loop_first xs st p (fun _ => hit) miss hs he
 rw [h1]
 rcases h2 with ⟨h3,h4⟩ | ⟨i,x,h3,h4⟩ <;> rw [h3,h4] <;> rfl
theorem loop_fold {P E α β:Type} {B:P → Option (P ⊕ E)} (xs:List α) (st:Nat → β → P) (f:β → α → β) (en:β → E) (b0:β) (I:Nat → β → Prop) (h0:I 0 b0)
  (hs:∀ i (h:i < xs.length) b,I i b → B (st i b) = some (.inl (st (i + 1) (f b xs[i]))) ∧ I (i + 1) (f b xs[i])) (he:∀ b,I xs.length b → B (st xs.length b) = some (.inr (en b))) :
  loop B (st 0 b0) = some (en (xs.foldl f b0)):=by
 have key:∀ (n i:Nat) b,xs.length - i = n → i ≤ xs.length → I i b → loop B (st i b) = some (en ((xs.drop i).foldl f b)):=by
  intro n
  induction n with
  | zero =>
   intro i b h1 h2 hI
   have:i = xs.length:=by omega
   subst this
   rw [List.drop_length]
   exact loop_end (he b hI)
  | succ n ih =>
   intro i b h1 h2 hI
   have hlt:i < xs.length:=by omega
   obtain ⟨hb,hI'⟩:=hs i hlt b hI
   rw [List.drop_eq_getElem_cons hlt,List.foldl_cons]
   exact loop_step hb (ih (i + 1) _ (by omega) hlt hI')
 have:=key xs.length 0 b0 (by omega) (by omega) h0
 simpa using this
theorem lt_in {i n:Nat} (h:i < n):decide ((i:Int) < Int.ofNat n) = true:=by simp; omega
theorem lt_out (n:Nat):decide ((n:Int) < Int.ofNat n) = false:=by simp
theorem ge_zero (i:Nat):decide (Int.ofNat 0 ≤ (i:Int)) = true:=by simp
theorem at_in {α:Type} {xs:List α} {i:Nat} (h:i < xs.length):xs[Int.toNat (i:Int)]? = some xs[i]:=by simp [h]
theorem wrap_next {i n:Nat} (h:i < n) (hn:n ≤ 9223372036854775807):IntKind.wrap IntKind.i64 ((i:Int) + Int.ofNat 1) = ((i + 1:Nat):Int):=wrap64s i (by omega)
theorem beq_bs (a b:ByteArray):(bl a == bl b) = (bs a == bs b):=by rw [bs_toList,bs_toList]
abbrev Swp:=ByteArray × ByteArray × Ver
abbrev Rel:=Int × Int × Int × ByteArray × List Req × ByteArray × ByteArray × Unit
abbrev Mod:=ByteArray × List Rel × Unit
abbrev Rev:=ByteArray × ByteArray × Bool × Bool × Int × Int × Int × ByteArray × Int × Unit
def Rel.v (r:Rel):Ver:=(r.1,r.2.1,r.2.2.1,r.2.2.2.1,())
def Rel.reqs (r:Rel):List Req:=r.2.2.2.2.1
def eqV (a b:Ver):Bool:=a.1 == b.1 && (a.2.1 == b.2.1 && (a.2.2.1 == b.2.2.1 && bs a.2.2.2.1 == bs b.2.2.2.1))
theorem eqV_iff {a b:Ver}:eqV a b = true ↔ a = b:=by
 obtain ⟨a1,a2,a3,a4,u⟩:=a
 obtain ⟨b1,b2,b3,b4,u'⟩:=b
 simp only [eqV,Bool.and_eq_true,beq_iff_eq,Prod.mk.injEq,and_true]
 constructor
 ·rintro ⟨h1,h2,h3,h4⟩; exact ⟨h1,h2,h3,bs_inj h4⟩
 ·rintro ⟨h1,h2,h3,h4⟩; exact ⟨h1,h2,h3,by rw [h4]⟩
def modOf (w:List Mod) (p:ByteArray):Option Mod:=w.find? fun y => bs y.1 == bs p
def relsOf (w:List Mod) (p:ByteArray):List Rel:=(modOf w p).elim [] fun m => m.2.1
def relOf (w:List Mod) (p:ByteArray) (v:Ver):Option Rel:=(relsOf w p).find? fun y => eqV y.v v
abbrev big:Nat:=1099511627776
end Go.Vx
namespace Go.Vx.Z
open Go Go.Vx
set_option linter.unusedVariables false
theorem F47_is (l:List Req) (h:l.length ≤ big):F47 (l,()) = some (l,()):=by
 rw [F47_eq,Nat.ble_eq_true_of_le (by simp only [big] at h; omega)]
 rfl
theorem F203_is (w:List Mod) (rv:List Rev) (p:ByteArray) (h:w.length ≤ big):F203 (w,rv,p,()) = some ((modOf w p).elim (lit [],[],false,()) fun m => (m.1,m.2.1,true,())):=by
 rw [F203_eq]
 rw [show (Int.ofNat 0:Int) = ((0:Nat):Int) from rfl,loop_find (B:=B203_0) w (fun i => (p,w,Int.ofNat w.length,(i:Int),lit [],())) (fun y => bs y.1 == bs p) (fun y => .inl (true,y.1,y.2.1,())) (.inr (lit [],())) ?_ ?_]
 ·unfold modOf
  cases w.find? fun y => bs y.1 == bs p <;> rfl
 ·intro i hi
  rw [B203_0_eq,lt_in hi,ge_zero,at_in hi,wrap_next hi (by simp only [big] at h; omega)]
  simp only [cond_true,Option.bind_some,beq_bs]
  cases bs w[i].1 == bs p <;> rfl
 ·rw [B203_0_eq,lt_out]; rfl
def okW (w:List Mod):Prop:=w.length ≤ big ∧ ∀ m ∈ w,m.2.1.length ≤ big ∧ ∀ r ∈ m.2.1,r.reqs.length ≤ big
theorem modOf_mem {w:List Mod} {p:ByteArray} {m:Mod} (h:modOf w p = some m):m ∈ w:=List.mem_of_find?_eq_some h
theorem relsOf_len {w:List Mod} {p:ByteArray} (h:okW w):(relsOf w p).length ≤ big ∧ ∀ r ∈ relsOf w p,r.reqs.length ≤ big:=by
 unfold relsOf
 cases hm:modOf w p with
 | none => simp
 | some m => exact h.2 m (modOf_mem hm)
theorem F153_is (w:List Mod) (rv:List Rev) (p:ByteArray) (v:Ver) (h:okW w):F153 (w,rv,p,v.1,v.2.1,v.2.2.1,v.2.2.2.1,()) =
  some ((relOf w p v).elim (0,0,0,lit [],[],lit [],lit [],false,()) fun y => (y.1,y.2.1,y.2.2.1,y.2.2.2.1,y.2.2.2.2.1,y.2.2.2.2.2.1,y.2.2.2.2.2.2.1,true,())):=by
 rw [F153_eq,F203_is w rv p h.1]
 have hl:=(relsOf_len (p:=p) h).1
 have hr:∀ e:ByteArray × List Rel × Bool × Unit,e = (modOf w p).elim (lit [],[],false,()) (fun m => (m.1,m.2.1,true,())) → e.2.1 = relsOf w p:=by
  intro e he
  subst he
  unfold relsOf
  cases modOf w p <;> rfl
 generalize hee:(modOf w p).elim (lit [],[],false,()) (fun m => (m.1,m.2.1,true,())) = e
 rw [Option.bind_some,hr e hee.symm]
 rw [show (Int.ofNat 0:Int) = ((0:Nat):Int) from rfl,loop_find (B:=B153_0) (relsOf w p) (fun i => (relsOf w p,Int.ofNat (relsOf w p).length,(i:Int),v.1,v.2.1,v.2.2.1,v.2.2.2.1,((0:Nat):Int),((0:Nat):Int),((0:Nat):Int),lit [],lit [],lit [],()))
  (fun y => eqV y.v v) (fun y => .inl (true,y.1,y.2.1,y.2.2.1,y.2.2.2.1,y.2.2.2.2.1,y.2.2.2.2.2.1,y.2.2.2.2.2.2.1,())) (.inr (((0:Nat):Int),((0:Nat):Int),((0:Nat):Int),lit [],lit [],lit [],())) ?_ ?_]
 ·unfold relOf
  cases (relsOf w p).find? fun y => eqV y.v v <;> rfl
 ·intro i hi
  rw [B153_0_eq,lt_in hi,ge_zero,at_in hi,wrap_next hi (by simp only [big] at hl; omega)]
  simp only [cond_true,Option.bind_some,beq_bs]
  show (bif eqV (relsOf w p)[i].v v then some _ else some _) = _
  cases eqV (relsOf w p)[i].v v <;> rfl
 ·rw [B153_0_eq,lt_out]; rfl
theorem F94_is (w:List Mod) (rv:List Rev) (p:ByteArray) (v:Ver) (h:okW w):F94 (w,rv,p,v.1,v.2.1,v.2.2.1,v.2.2.2.1,()) =
  some ((relOf w p v).elim (0,0,0,lit [],[],lit [],lit [],false,()) fun y => (y.1,y.2.1,y.2.2.1,y.2.2.2.1,y.2.2.2.2.1,y.2.2.2.2.2.1,y.2.2.2.2.2.2.1,true,())):=by
 rw [F94_eq,F153_is w rv p v h,Option.bind_some]
 cases hr:relOf w p v with
 | none => simp only [Option.elim_none]; rw [F47_is [] (by simp [big])]; rfl
 | some y =>
  have:y ∈ relsOf w p:=List.mem_of_find?_eq_some hr
  simp only [Option.elim_some]
  rw [F47_is y.2.2.2.2.1 ((relsOf_len h).2 y this)]
  rfl
end Go.Vx.Z
/-! What is asked for, as the program takes it. -/
namespace Go.Vx
open Go
set_option linter.unusedVariables false
theorem loop_upto {P E β:Type} {B:P → Option (P ⊕ E)} (n:Nat) (st:Nat → β → P) (en:β → E) (I:Nat → β → Prop)
  (hs:∀ i,i < n → ∀ b,I i b → ∃ b',B (st i b) = some (.inl (st (i + 1) b')) ∧ I (i + 1) b') (he:∀ b,I n b → B (st n b) = some (.inr (en b))):∀ k b,k ≤ n → I k b → ∃ b',loop B (st k b) = some (en b') ∧ I n b':=by
 have key:∀ (d k:Nat) b,n - k = d → k ≤ n → I k b → ∃ b',loop B (st k b) = some (en b') ∧ I n b':=by
  intro d
  induction d with
  | zero =>
   intro k b h1 h2 hI
   have:k = n:=by omega
   subst this
   exact ⟨b,loop_end (he b hI),hI⟩
  | succ d ih =>
   intro k b h1 h2 hI
   obtain ⟨b',h3,h4⟩:=hs k (by omega) b hI
   obtain ⟨b'',h5,h6⟩:=ih (k + 1) b' (by omega) (by omega) h4
   exact ⟨b'',loop_step h3 h5,h6⟩
 intro k b hk hI
 exact key (n - k) k b rfl hk hI
theorem lt_both {i n:Nat} (h:i < n):(decide (Int.ofNat 0 ≤ (i:Int)) && decide ((i:Int) < Int.ofNat n)) = true:=by rw [ge_zero,lt_in h]; rfl
end Go.Vx
namespace Go.Vx.Z
open Go Go.Vx
set_option linter.unusedVariables false
set_option maxRecDepth 100000
structure okS (ex:List Req) (sw:List Swp) (w:List Mod):Prop where
 hex:ex.length ≤ big
 hsw:sw.length ≤ big
 hw:okW w
 vers:∀ m ∈ w,∀ y ∈ m.2.1,okV y.v = true
 reqs:∀ m ∈ w,∀ y ∈ m.2.1,∀ q ∈ y.reqs,okR q = true
section
variable (md:ByteArray) (rq ex:List Req) (sw:List Swp) (w:List Mod) (rv:List Rev) (r:Req)
end
end Go.Vx.Z
/-! The harness: numbers within, paths, majors. -/
namespace Go.Vx
open Go
set_option linter.unusedVariables false
theorem within_eq (x:Int) (n:Nat) (hn:0 < n) (hm:n ≤ 4611686018427387904):∃ k:Nat,k < n ∧ (bif decide (Int.tmod x (n:Int) < Int.ofNat 0) then some (IntKind.wrap IntKind.i64 (Int.tmod x (n:Int) + (n:Int)),()) else some (Int.tmod x (n:Int),())) = some ((k:Int),()):=by
 have h1:Int.tmod x n < n:=Int.tmod_lt_of_pos x (by omega)
 have h2:-(n:Int) < Int.tmod x n:=by
  have:=Int.lt_tmod_of_pos x (show (0:Int) < n by omega)
  exact this
 cases hc:decide (Int.tmod x (n:Int) < Int.ofNat 0) with
 | true =>
  have hc':Int.tmod x n < 0:=of_decide_eq_true hc
  refine ⟨(Int.tmod x n + n).toNat,by omega,?_⟩
  rw [cond_true,wrap64 (by omega) (by omega)]
  congr 2
  omega
 | false =>
  have hc':¬ Int.tmod x n < 0:=of_decide_eq_false hc
  refine ⟨(Int.tmod x n).toNat,by omega,?_⟩
  rw [cond_false]
  congr 2
  omega
end Go.Vx
namespace Go.Vx.Z
open Go Go.Vx
set_option linter.unusedVariables false
theorem F18_is (x:Int) (n:Nat) (hn:0 < n) (hm:n ≤ 4611686018427387904):∃ k:Nat,k < n ∧ F18 (x,(n:Int),()) = some ((k:Int),()):=by
 rw [F18_eq]
 have:(!decide ((n:Int) = Int.ofNat 0)) = true:=by simp; omega
 rw [this,cond_true]
 exact within_eq x n hn hm
theorem F24_is (x:Int) (n:Nat) (hn:0 < n) (hm:n ≤ 4611686018427387904):∃ k:Nat,k < n ∧ F24 (x,(n:Int),()) = some ((k:Int),()):=by
 rw [F24_eq]
 have:(!decide ((n:Int) = Int.ofNat 0)) = true:=by simp; omega
 rw [this,cond_true]
 exact within_eq x n hn hm
def majors:List Int:=[1,1,1,2,1,3,4]
def pathsL:List ByteArray:=[lit [97],lit [97,47,115,117,98],lit [98,47,99],lit [98,47,99,47,118,50],lit [100],lit [101,47,118,51],lit [101,47,118,52]]
theorem F26_is (i:Nat) (h:i < 7):F26 ((i:Int),()) = some (majors.getD i 0,()):=by
 rw [F26_eq,ge_zero,cond_true]
 match i,h with
 | 0,_ | 1,_ | 2,_ | 3,_ | 4,_ | 5,_ | 6,_ => rfl
theorem F25_is:F25 () = some (pathsL,()):=F25_eq
end Go.Vx.Z
namespace Go.Vx.Z
noncomputable section
open _root_.Int (ofNat toNat)
open IntKind (wrap)
open _root_.ByteArray (size)
open _root_.List (length)
open _root_.Sum (inl inr elim)
open Go Go.Vx Go.Proofs
set_option linter.unusedVariables false
set_option maxRecDepth 1000000
set_option maxHeartbeats 4000000
def PF26:Int × Unit → Option (Int × Unit):=fun (x0,_) =>
 bif decide (ofNat 0 ≤ x0) then Option.bind [ofNat 1,ofNat 1,ofNat 1,ofNat 2,ofNat 1,ofNat 3,ofNat 4][toNat x0]? fun y => some (y,()) else none
theorem PF26_ok:F26 = PF26:=by
 funext p
 obtain ⟨x0,⟨⟩⟩:=p
 unfold PF26
 kernel_rfl
def PF29:Int × Int × Unit → Option (ByteArray × Unit):=fun (x0,x1,_) =>
 bif decide (ofNat 0 ≤ x0) && (decide (x0 ≤ wrap .i64 (x0 + ofNat 1)) && decide (wrap .i64 (x0 + ofNat 1) ≤ ofNat 16)) then bif decide (ofNat 0 ≤ x1) && (decide (x1 ≤ wrap .i64 (x1 + ofNat 1)) && decide (wrap .i64 (x1 + ofNat 1) ≤ ofNat 16)) then bif fitsS (ByteArray.extract (lit [48,49,50,51,52,53,54,55,56,57,97,98,99,100,101,102]) (toNat x0) (toNat (wrap .i64 (x0 + ofNat 1)))) (ByteArray.extract (lit [48,49,50,51,52,53,54,55,56,57,97,98,99,100,101,102]) (toNat x1) (toNat (wrap .i64 (x1 + ofNat 1)))) then bif decide (ofNat 0 ≤ wrap .i64 (ofNat 10 + Int.tmod (wrap .i64 (x0 + x1)) (ofNat 9))) && decide (wrap .i64 (ofNat 10 + Int.tmod (wrap .i64 (x0 + x1)) (ofNat 9)) ≤ ofNat 20) then bif fitsS (ByteArray.extract (lit [48,49,50,51,52,53,54,55,56,57,97,98,99,100,101,102]) (toNat x0) (toNat (wrap .i64 (x0 + ofNat 1))) ++ ByteArray.extract (lit [48,49,50,51,52,53,54,55,56,57,97,98,99,100,101,102]) (toNat x1) (toNat (wrap .i64 (x1 + ofNat 1)))) (ByteArray.extract (lit [48,48,49,49,50,50,51,51,52,52,53,53,54,54,55,55,56,56,57,57]) 0 (toNat (wrap .i64 (ofNat 10 + Int.tmod (wrap .i64 (x0 + x1)) (ofNat 9))))) then some (ByteArray.extract (lit [48,49,50,51,52,53,54,55,56,57,97,98,99,100,101,102]) (toNat x0) (toNat (wrap .i64 (x0 + ofNat 1))) ++ ByteArray.extract (lit [48,49,50,51,52,53,54,55,56,57,97,98,99,100,101,102]) (toNat x1) (toNat (wrap .i64 (x1 + ofNat 1))) ++ ByteArray.extract (lit [48,48,49,49,50,50,51,51,52,52,53,53,54,54,55,55,56,56,57,57]) 0 (toNat (wrap .i64 (ofNat 10 + Int.tmod (wrap .i64 (x0 + x1)) (ofNat 9)))),()) else none else none else none else none else none
theorem PF29_ok:F29 = PF29:=by
 funext p
 obtain ⟨x0,x1,⟨⟩⟩:=p
 unfold PF29
 kernel_rfl
def PF141:Int × Unit → Option (Bool × Unit):=fun (x0,_) =>
 bif decide (x0 ≥ ofNat 48) then some (decide (x0 ≤ ofNat 57),()) else some (false,())
theorem PF141_ok:F141 = PF141:=by
 funext p
 obtain ⟨x0,⟨⟩⟩:=p
 unfold PF141
 kernel_rfl
def PB85_0:ByteArray × Int × Unit → Option ((ByteArray × Int × Unit) ⊕ (Bool × Unit) ⊕ (ByteArray × Unit)):=fun (x0,x1,_) =>
 bif decide (x1 < ofNat (size x0)) then bif decide (ofNat 0 ≤ x1) && decide (x1 < ofNat (size x0)) then Option.bind (PF141 (bt x0 x1,())) fun r => bif !r.1 then bif decide (ofNat 0 ≤ x1) && decide (x1 < ofNat (size x0)) then bif decide (bt x0 x1 < ofNat 97) then some (inr (inl (false,()))) else bif decide (ofNat 0 ≤ x1) && decide (x1 < ofNat (size x0)) then bif decide (bt x0 x1 > ofNat 102) then some (inr (inl (false,()))) else some (inl (x0,wrap .i64 (x1 + ofNat 1),())) else none else none else some (inl (x0,wrap .i64 (x1 + ofNat 1),())) else none else some (inr (inr (x0,())))
theorem PB85_0_ok:B85_0 = PB85_0:=by
 funext p
 obtain ⟨x0,x1,⟨⟩⟩:=p
 unfold PB85_0
 rw [← PF141_ok]
 kernel_rfl
def PF85:ByteArray × Unit → Option (Bool × Unit):=fun (x0,_) =>
 Option.bind (loop PB85_0 (x0,ofNat 0,())) fun r => elim (fun p => some (p.1,())) (fun p => bif decide (ofNat (size p.1) ≥ ofNat 12) then some (decide (ofNat (size p.1) ≤ ofNat 40),()) else some (false,())) r
theorem PF85_ok:F85 = PF85:=by
 funext p
 obtain ⟨x0,⟨⟩⟩:=p
 unfold PF85
 rw [← PB85_0_ok]
 kernel_rfl
def PB142_0:ByteArray × Int × Int × List ByteArray × Unit → Option ((ByteArray × Int × Int × List ByteArray × Unit) ⊕ List ByteArray × Unit):=fun (x0,x1,x2,x3,_) =>
 bif decide (x2 ≤ ofNat (size x0)) then bif x2 == ofNat (size x0) then bif decide (ofNat 0 ≤ x1) && (decide (x1 ≤ x2) && decide (x2 ≤ ofNat (size x0))) then bif decide (length x3 + length [ByteArray.extract x0 (toNat x1) (toNat x2)] ≤ 8796093022208) then some (inl (x0,wrap .i64 (x2 + ofNat 1),wrap .i64 (x2 + ofNat 1),x3 ++ [ByteArray.extract x0 (toNat x1) (toNat x2)],())) else none else none else bif decide (ofNat 0 ≤ x2) && decide (x2 < ofNat (size x0)) then bif bt x0 x2 == ofNat 46 then bif decide (ofNat 0 ≤ x1) && (decide (x1 ≤ x2) && decide (x2 ≤ ofNat (size x0))) then bif decide (length x3 + length [ByteArray.extract x0 (toNat x1) (toNat x2)] ≤ 8796093022208) then some (inl (x0,wrap .i64 (x2 + ofNat 1),wrap .i64 (x2 + ofNat 1),x3 ++ [ByteArray.extract x0 (toNat x1) (toNat x2)],())) else none else none else some (inl (x0,x1,wrap .i64 (x2 + ofNat 1),x3,())) else none else some (inr (x3,()))
theorem PB142_0_ok:B142_0 = PB142_0:=by
 funext p
 obtain ⟨x0,x1,x2,x3,⟨⟩⟩:=p
 unfold PB142_0
 kernel_rfl
def PF142:ByteArray × Unit → Option (List ByteArray × Unit):=fun (x0,_) =>
 Option.bind (loop PB142_0 (x0,ofNat 0,ofNat 0,[],())) fun r => some (r.1,())
theorem PF142_ok:F142 = PF142:=by
 funext p
 obtain ⟨x0,⟨⟩⟩:=p
 unfold PF142
 rw [← PB142_0_ok]
 kernel_rfl
def PB192_0:ByteArray × Int × Unit → Option ((ByteArray × Int × Unit) ⊕ (Bool × Unit) ⊕ (ByteArray × Unit)):=fun (x0,x1,_) =>
 bif decide (x1 < ofNat (size x0)) then bif decide (ofNat 0 ≤ x1) && decide (x1 < ofNat (size x0)) then Option.bind (PF141 (bt x0 x1,())) fun r => bif !r.1 then some (inr (inl (false,()))) else some (inl (x0,wrap .i64 (x1 + ofNat 1),())) else none else some (inr (inr (x0,())))
theorem PB192_0_ok:B192_0 = PB192_0:=by
 funext p
 obtain ⟨x0,x1,⟨⟩⟩:=p
 unfold PB192_0
 rw [← PF141_ok]
 kernel_rfl
def PF192:ByteArray × Unit → Option (Bool × Unit):=fun (x0,_) =>
 Option.bind (loop PB192_0 (x0,ofNat 0,())) fun r => elim (fun p => some (p.1,())) (fun p => some (!bl p.1 == [],())) r
theorem PF192_ok:F192 = PF192:=by
 funext p
 obtain ⟨x0,⟨⟩⟩:=p
 unfold PF192
 rw [← PB192_0_ok]
 kernel_rfl
def PF193:Int × Unit → Option (Bool × Unit):=fun (x0,_) =>
 bif decide (x0 ≥ ofNat 97) then bif decide (x0 ≤ ofNat 122) then some (true,()) else bif decide (x0 ≥ ofNat 65) then bif decide (x0 ≤ ofNat 90) then some (true,()) else some (x0 == ofNat 45,()) else some (x0 == ofNat 45,()) else bif decide (x0 ≥ ofNat 65) then bif decide (x0 ≤ ofNat 90) then some (true,()) else some (x0 == ofNat 45,()) else some (x0 == ofNat 45,())
theorem PF193_ok:F193 = PF193:=by
 funext p
 obtain ⟨x0,⟨⟩⟩:=p
 unfold PF193
 kernel_rfl
def PB143_0:ByteArray × Int × Unit → Option ((ByteArray × Int × Unit) ⊕ (Bool × Unit) ⊕ (Unit)):=fun (x0,x1,_) =>
 bif decide (x1 < ofNat (size x0)) then bif decide (ofNat 0 ≤ x1) && decide (x1 < ofNat (size x0)) then Option.bind (PF141 (bt x0 x1,())) fun r => bif !r.1 then bif decide (ofNat 0 ≤ x1) && decide (x1 < ofNat (size x0)) then Option.bind (PF193 (bt x0 x1,())) fun r => bif !r.1 then some (inr (inl (false,()))) else some (inl (x0,wrap .i64 (x1 + ofNat 1),())) else none else some (inl (x0,wrap .i64 (x1 + ofNat 1),())) else none else some (inr (inr ()))
theorem PB143_0_ok:B143_0 = PB143_0:=by
 funext p
 obtain ⟨x0,x1,⟨⟩⟩:=p
 unfold PB143_0
 rw [← PF141_ok,← PF193_ok]
 kernel_rfl
def PF143:ByteArray × Unit → Option (Bool × Unit):=fun (x0,_) =>
 bif bl x0 == [] then some (false,()) else Option.bind (PF192 (x0,())) fun r => bif r.1 then bif decide (ofNat (size x0) > ofNat 1) then bif decide (ofNat 0 < ofNat (size x0)) then bif bt x0 (ofNat 0) == ofNat 48 then some (false,()) else Option.bind (loop PB143_0 (x0,ofNat 0,())) fun r => elim (fun p => some (p.1,())) (fun p => some (true,())) r else none else Option.bind (loop PB143_0 (x0,ofNat 0,())) fun r => elim (fun p => some (p.1,())) (fun p => some (true,())) r else Option.bind (loop PB143_0 (x0,ofNat 0,())) fun r => elim (fun p => some (p.1,())) (fun p => some (true,())) r
theorem PF143_ok:F143 = PF143:=by
 funext p
 obtain ⟨x0,⟨⟩⟩:=p
 unfold PF143
 rw [← PB143_0_ok,← PF192_ok]
 kernel_rfl
def PB86_0:List ByteArray × Int × Unit → Option ((List ByteArray × Int × Unit) ⊕ (Bool × Unit) ⊕ (Unit)):=fun (x0,x1,_) =>
 bif decide (x1 < ofNat (length x0)) then bif decide (ofNat 0 ≤ x1) then Option.bind x0[toNat x1]? fun y => Option.bind (PF143 (y,())) fun r => bif !r.1 then some (inr (inl (false,()))) else some (inl (x0,wrap .i64 (x1 + ofNat 1),())) else none else some (inr (inr ()))
theorem PB86_0_ok:B86_0 = PB86_0:=by
 funext p
 obtain ⟨x0,x1,⟨⟩⟩:=p
 unfold PB86_0
 rw [← PF143_ok]
 kernel_rfl
def PF86:Int × Int × Int × ByteArray × Unit → Option (Bool × Unit):=fun (x0,x1,x2,x3,_) =>
 bif decide (x0 < ofNat 0) then some (false,()) else bif decide (x1 < ofNat 0) then some (false,()) else bif decide (x2 < ofNat 0) then some (false,()) else bif decide ((bif decide (x2 > bif decide (x1 > x0) then x1 else x0) then x2 else bif decide (x1 > x0) then x1 else x0) > ofNat 999999) then some (false,()) else bif decide (ofNat (size x3) > ofNat 40) then some (false,()) else bif bl x3 == [] then some (true,()) else Option.bind (PF142 (x3,())) fun r => Option.bind (loop PB86_0 (r.1,ofNat 0,())) fun r => elim (fun p => some (p.1,())) (fun p => some (true,())) r
theorem PF86_ok:F86 = PF86:=by
 funext p
 obtain ⟨x0,x1,x2,x3,⟨⟩⟩:=p
 unfold PF86
 rw [← PB86_0_ok,← PF142_ok]
 kernel_rfl
def PB57_0:Bool × ByteArray × ByteArray × Int × Int × Int × ByteArray × Int × Int × Int × ByteArray × Unit → Option ((Bool × ByteArray × ByteArray × Int × Int × Int × ByteArray × Int × Int × Int × ByteArray × Unit) ⊕ Bool × ByteArray × ByteArray × Int × Int × Int × ByteArray × Int × Int × Int × ByteArray × Unit):=fun (x0,x1,x2,x3,x4,x5,x6,x7,x8,x9,x10,_) =>
 bif decide (ofNat (size x2) < ofNat 14) then bif fitsS (lit [48]) x2 then some (inl (x0,x1,(lit [48]) ++ x2,x3,x4,x5,x6,x7,x8,x9,x10,())) else none else some (inr (x0,x1,x2,x3,x4,x5,x6,x7,x8,x9,x10,()))
theorem PB57_0_ok:B57_0 = PB57_0:=by
 funext p
 obtain ⟨x0,x1,x2,x3,x4,x5,x6,x7,x8,x9,x10,⟨⟩⟩:=p
 unfold PB57_0
 kernel_rfl
def PF57:Bool × Int × Int × Int × ByteArray × Int × ByteArray × Unit → Option (Int × Int × Int × ByteArray × Bool × Unit):=fun (x0,x1,x2,x3,x4,x5,x6,_) =>
 bif decide (x5 < ofNat 0) then some (ofNat 0,ofNat 0,ofNat 0,(lit []),false,()) else bif decide (x5 > ofNat 99999999999999) then some (ofNat 0,ofNat 0,ofNat 0,(lit []),false,()) else Option.bind (PF85 (x6,())) fun r => bif !r.1 then some (ofNat 0,ofNat 0,ofNat 0,(lit []),false,()) else Option.bind (F28 (x5,())) fun r => Option.bind (loop PB57_0 (x0,x6,r.1,x1,x2,x3,x4,ofNat 0,ofNat 0,ofNat 0,(lit []),())) fun r => bif fitsS r.2.2.1 (lit [45]) then bif decide (ofNat 12 ≤ ofNat (size r.2.1)) then bif fitsS (r.2.2.1 ++ (lit [45])) (ByteArray.extract r.2.1 0 12) then bif !r.1 then Option.bind (PF86 (ofNat 0,ofNat 0,ofNat 0,r.2.2.1 ++ (lit [45]) ++ ByteArray.extract r.2.1 0 12,())) fun r_1 => bif !r_1.1 then some (ofNat 0,ofNat 0,ofNat 0,(lit []),false,()) else some (ofNat 0,ofNat 0,ofNat 0,r.2.2.1 ++ (lit [45]) ++ ByteArray.extract r.2.1 0 12,true,()) else bif bl r.2.2.2.2.2.2.1 == [] then bif fitsS (lit [48,46]) (r.2.2.1 ++ (lit [45]) ++ ByteArray.extract r.2.1 0 12) then Option.bind (PF86 (r.2.2.2.1,r.2.2.2.2.1,wrap .i64 (r.2.2.2.2.2.1 + ofNat 1),(lit [48,46]) ++ (r.2.2.1 ++ (lit [45]) ++ ByteArray.extract r.2.1 0 12),())) fun r_1 => bif !r_1.1 then some (ofNat 0,ofNat 0,ofNat 0,(lit []),false,()) else some (r.2.2.2.1,r.2.2.2.2.1,wrap .i64 (r.2.2.2.2.2.1 + ofNat 1),(lit [48,46]) ++ (r.2.2.1 ++ (lit [45]) ++ ByteArray.extract r.2.1 0 12),true,()) else none else bif fitsS r.2.2.2.2.2.2.1 (lit [46,48,46]) then bif fitsS (r.2.2.2.2.2.2.1 ++ (lit [46,48,46])) (r.2.2.1 ++ (lit [45]) ++ ByteArray.extract r.2.1 0 12) then Option.bind (PF86 (r.2.2.2.1,r.2.2.2.2.1,r.2.2.2.2.2.1,r.2.2.2.2.2.2.1 ++ (lit [46,48,46]) ++ (r.2.2.1 ++ (lit [45]) ++ ByteArray.extract r.2.1 0 12),())) fun r_1 => bif !r_1.1 then some (ofNat 0,ofNat 0,ofNat 0,(lit []),false,()) else some (r.2.2.2.1,r.2.2.2.2.1,r.2.2.2.2.2.1,r.2.2.2.2.2.2.1 ++ (lit [46,48,46]) ++ (r.2.2.1 ++ (lit [45]) ++ ByteArray.extract r.2.1 0 12),true,()) else none else none else none else none else none
theorem PF57_ok:F57 = PF57:=by
 funext p
 obtain ⟨x0,x1,x2,x3,x4,x5,x6,⟨⟩⟩:=p
 unfold PF57
 rw [← PB57_0_ok,← PF85_ok,← PF86_ok]
 kernel_rfl
def PF27:Int × Unit → Option (Int × Int × Int × ByteArray × Unit):=fun (x0,_) =>
 Option.bind (PF26 (x0,())) fun r => Option.bind (PF29 (x0,ofNat 9,())) fun r_1 => Option.bind (PF57 (true,r.1,ofNat 1,ofNat 0,(lit []),wrap .i64 (ofNat 20200101000000 + x0),r_1.1,())) fun r => some (r.1,r.2.1,r.2.2.1,r.2.2.2.1,())
theorem PF27_ok:F27 = PF27:=by
 funext p
 obtain ⟨x0,⟨⟩⟩:=p
 unfold PF27
 rw [← PF26_ok,← PF29_ok,← PF57_ok]
 kernel_rfl
def PF20:Int × Int × Int × ByteArray × Unit → Option (ByteArray × Unit):=fun (x0,x1,x2,x3,_) =>
 Option.bind (F28 (x0,())) fun r => bif fitsS (lit [118]) r.1 then bif fitsS ((lit [118]) ++ r.1) (lit [46]) then Option.bind (F28 (x1,())) fun r_1 => bif fitsS ((lit [118]) ++ r.1 ++ (lit [46])) r_1.1 then bif fitsS ((lit [118]) ++ r.1 ++ (lit [46]) ++ r_1.1) (lit [46]) then Option.bind (F28 (x2,())) fun r_2 => bif fitsS ((lit [118]) ++ r.1 ++ (lit [46]) ++ r_1.1 ++ (lit [46])) r_2.1 then bif bl x3 == [] then some ((lit [118]) ++ r.1 ++ (lit [46]) ++ r_1.1 ++ (lit [46]) ++ r_2.1,()) else bif fitsS ((lit [118]) ++ r.1 ++ (lit [46]) ++ r_1.1 ++ (lit [46]) ++ r_2.1) (lit [45]) then bif fitsS ((lit [118]) ++ r.1 ++ (lit [46]) ++ r_1.1 ++ (lit [46]) ++ r_2.1 ++ (lit [45])) x3 then some ((lit [118]) ++ r.1 ++ (lit [46]) ++ r_1.1 ++ (lit [46]) ++ r_2.1 ++ (lit [45]) ++ x3,()) else none else none else none else none else none else none else none
theorem PF20_ok:F20 = PF20:=by
 funext p
 obtain ⟨x0,x1,x2,x3,⟨⟩⟩:=p
 unfold PF20
 kernel_rfl
def PB188_0:ByteArray × Int × Int × Unit → Option ((ByteArray × Int × Int × Unit) ⊕ (Bool × Unit) ⊕ (ByteArray × Unit)):=fun (x0,x1,x2,_) =>
 bif decide (x2 < x1) then bif decide (ofNat 0 ≤ x2) && decide (x2 < ofNat (size x0)) then bif decide (bt x0 x2 < ofNat 48) then some (inr (inl (false,()))) else bif decide (ofNat 0 ≤ x2) && decide (x2 < ofNat (size x0)) then bif decide (bt x0 x2 > ofNat 57) then some (inr (inl (false,()))) else some (inl (x0,x1,wrap .i64 (x2 + ofNat 1),())) else none else none else some (inr (inr (x0,())))
theorem PB188_0_ok:B188_0 = PB188_0:=by
 funext p
 obtain ⟨x0,x1,x2,⟨⟩⟩:=p
 unfold PB188_0
 kernel_rfl
def PF188:ByteArray × Unit → Option (Bool × Unit):=fun (x0,_) =>
 Option.bind (loop PB188_0 (x0,ofNat (size x0),ofNat 0,())) fun r => elim (fun p => some (p.1,())) (fun p => some (!bl p.1 == [],())) r
theorem PF188_ok:F188 = PF188:=by
 funext p
 obtain ⟨x0,⟨⟩⟩:=p
 unfold PF188
 rw [← PB188_0_ok]
 kernel_rfl
def PF272:ByteArray × Int × Unit → Option (Int × Unit):=fun (x0,x1,_) =>
 some (xIndexByte x0 x1,())
theorem PF272_ok:F272 = PF272:=by
 funext p
 obtain ⟨x0,x1,⟨⟩⟩:=p
 unfold PF272
 kernel_rfl
def PF239:ByteArray × ByteArray × Unit → Option (Int × Unit):=fun (x0,x1,_) =>
 bif ofNat (size x1) == ofNat 0 then some (ofNat 0,()) else bif bl x1 == bl x0 then some (ofNat 0,()) else bif ofNat (size x1) == ofNat 1 then bif decide (ofNat 0 < ofNat (size x1)) then Option.bind (PF272 (x0,bt x1 (ofNat 0),())) fun r => some (r.1,()) else none else bif decide (ofNat (size x1) ≥ ofNat (size x0)) then some (Int.negSucc 0,()) else none
theorem PF239_ok:F239 = PF239:=by
 funext p
 obtain ⟨x0,x1,⟨⟩⟩:=p
 unfold PF239
 rw [← PF272_ok]
 kernel_rfl
def PF237:ByteArray × ByteArray × Unit → Option (Int × Unit):=fun (x0,x1,_) =>
 Option.bind (PF239 (x0,x1,())) fun r => some (r.1,())
theorem PF237_ok:F237 = PF237:=by
 funext p
 obtain ⟨x0,x1,⟨⟩⟩:=p
 unfold PF237
 rw [← PF239_ok]
 kernel_rfl
def PB269_0:Int × ByteArray × Nat × Unit → Option ((Int × ByteArray × Nat × Unit) ⊕ Int × Unit):=fun (x0,x1,x2,_) =>
 bif (match (motive:=(x:Nat) → Nat → Nat.below (motive:=fun x => Nat → Bool) x → Bool) Nat.succ x2,size x1 with | Nat.zero,x => fun x => true | Nat.succ n,Nat.zero => fun x => false | Nat.succ n,Nat.succ m => fun x => x.1 m) (Nat.rec ⟨fun x => true,()⟩ (fun n n_ih => ⟨fun x => (match (motive:=(x:Nat) → Nat → Nat.below (motive:=fun x => Nat → Bool) x → Bool) Nat.succ n,x with | Nat.zero,x => fun x => true | Nat.succ n,Nat.zero => fun x => false | Nat.succ n,Nat.succ m => fun x => x.1 m) n_ih,n_ih⟩) x2) then some (inl (wrap .i64 (x0 + ofNat 1),x1,x2 + (Utf8.decode x1 x2).2,())) else some (inr (x0,()))
theorem PB269_0_ok:B269_0 = PB269_0:=by
 funext p
 obtain ⟨x0,x1,x2,⟨⟩⟩:=p
 unfold PB269_0
 kernel_rfl
def PF269:ByteArray × Unit → Option (Int × Unit):=fun (x0,_) =>
 Option.bind (loop PB269_0 (ofNat 0,x0,0,())) fun r => some (r.1,())
theorem PF269_ok:F269 = PF269:=by
 funext p
 obtain ⟨x0,⟨⟩⟩:=p
 unfold PF269
 rw [← PB269_0_ok]
 kernel_rfl
def PB236_0:ByteArray × ByteArray × Int × Unit → Option ((ByteArray × ByteArray × Int × Unit) ⊕ Int × Unit):=fun (x0,x1,x2,_) =>
 Option.bind (PF237 (x0,x1,())) fun r => bif r.1 == Int.negSucc 0 then some (inr (x2,())) else bif decide (ofNat 0 ≤ wrap .i64 (r.1 + ofNat (size x1))) && (decide (wrap .i64 (r.1 + ofNat (size x1)) ≤ ofNat (size x0)) && decide (ofNat (size x0) ≤ ofNat (size x0))) then some (inl (ByteArray.extract x0 (toNat (wrap .i64 (r.1 + ofNat (size x1)))) (toNat (ofNat (size x0))),x1,wrap .i64 (x2 + ofNat 1),())) else none
theorem PB236_0_ok:B236_0 = PB236_0:=by
 funext p
 obtain ⟨x0,x1,x2,⟨⟩⟩:=p
 unfold PB236_0
 rw [← PF237_ok]
 kernel_rfl
def PF236:ByteArray × ByteArray × Unit → Option (Int × Unit):=fun (x0,x1,_) =>
 bif ofNat (size x1) == ofNat 0 then Option.bind (PF269 (x0,())) fun r => some (wrap .i64 (r.1 + ofNat 1),()) else bif ofNat (size x1) == ofNat 1 then bif decide (ofNat 0 < ofNat (size x1)) then some (xCount x0 (bt x1 (ofNat 0)),()) else none else Option.bind (loop PB236_0 (x0,x1,ofNat 0,())) fun r => some (r.1,())
theorem PF236_ok:F236 = PF236:=by
 funext p
 obtain ⟨x0,x1,⟨⟩⟩:=p
 unfold PF236
 rw [← PB236_0_ok,← PF269_ok]
 kernel_rfl
def PB187_0:ByteArray × ByteArray × Int × Int × Int × List ByteArray × Unit → Option ((ByteArray × ByteArray × Int × Int × Int × List ByteArray × Unit) ⊕ ByteArray × Int × List ByteArray × Unit):=fun (x0,x1,x2,x3,x4,x5,_) =>
 bif decide (x4 < x3) then Option.bind (PF237 (x0,x1,())) fun r => bif decide (r.1 < ofNat 0) then some (inr (x0,x4,x5,())) else bif decide (ofNat 0 ≤ wrap .i64 (r.1 + x2)) && decide (wrap .i64 (r.1 + x2) ≤ ofNat (size x0)) then bif decide (ofNat 0 ≤ x4) && decide (x4 < ofNat (length x5)) then Option.bind x5[toNat x4]? fun y => bif decide (ofNat 0 ≤ wrap .i64 (r.1 + ofNat (size x1))) && (decide (wrap .i64 (r.1 + ofNat (size x1)) ≤ ofNat (size x0)) && decide (ofNat (size x0) ≤ ofNat (size x0))) then some (inl (ByteArray.extract x0 (toNat (wrap .i64 (r.1 + ofNat (size x1)))) (toNat (ofNat (size x0))),x1,x2,x3,wrap .i64 (x4 + ofNat 1),List.set x5 (toNat x4) (ByteArray.extract x0 0 (toNat (wrap .i64 (r.1 + x2)))),())) else none else none else none else some (inr (x0,x4,x5,()))
theorem PB187_0_ok:B187_0 = PB187_0:=by
 funext p
 obtain ⟨x0,x1,x2,x3,x4,x5,⟨⟩⟩:=p
 unfold PB187_0
 rw [← PF237_ok]
 kernel_rfl
def PF187:ByteArray × ByteArray × Int × Int × Unit → Option (List ByteArray × Unit):=fun (x0,x1,x2,x3,_) =>
 bif x3 == ofNat 0 then some ([],()) else bif bl x1 == [] then none else bif decide (x3 < ofNat 0) then Option.bind (PF236 (x0,x1,())) fun r => bif decide (ofNat 0 ≤ bif decide (wrap .i64 (ofNat (size x0) + ofNat 1) < wrap .i64 (r.1 + ofNat 1)) then wrap .i64 (ofNat (size x0) + ofNat 1) else wrap .i64 (r.1 + ofNat 1)) && (decide ((bif decide (wrap .i64 (ofNat (size x0) + ofNat 1) < wrap .i64 (r.1 + ofNat 1)) then wrap .i64 (ofNat (size x0) + ofNat 1) else wrap .i64 (r.1 + ofNat 1)) ≤ bif decide (wrap .i64 (ofNat (size x0) + ofNat 1) < wrap .i64 (r.1 + ofNat 1)) then wrap .i64 (ofNat (size x0) + ofNat 1) else wrap .i64 (r.1 + ofNat 1)) && decide ((ofNat 16 * bif decide (wrap .i64 (ofNat (size x0) + ofNat 1) < wrap .i64 (r.1 + ofNat 1)) then wrap .i64 (ofNat (size x0) + ofNat 1) else wrap .i64 (r.1 + ofNat 1)) ≤ ofNat 281474976710656) && decide ((bif decide (wrap .i64 (ofNat (size x0) + ofNat 1) < wrap .i64 (r.1 + ofNat 1)) then wrap .i64 (ofNat (size x0) + ofNat 1) else wrap .i64 (r.1 + ofNat 1)) ≤ ofNat 9223372036854775807)) then Option.bind (loop PB187_0 (x0,x1,x2,wrap .i64 ((bif decide (wrap .i64 (ofNat (size x0) + ofNat 1) < wrap .i64 (r.1 + ofNat 1)) then wrap .i64 (ofNat (size x0) + ofNat 1) else wrap .i64 (r.1 + ofNat 1)) - ofNat 1),ofNat 0,List.replicate (toNat (bif decide (wrap .i64 (ofNat (size x0) + ofNat 1) < wrap .i64 (r.1 + ofNat 1)) then wrap .i64 (ofNat (size x0) + ofNat 1) else wrap .i64 (r.1 + ofNat 1))) (lit []),())) fun r => bif decide (ofNat 0 ≤ r.2.1) && decide (r.2.1 < ofNat (length r.2.2.1)) then Option.bind r.2.2.1[toNat r.2.1]? fun y => bif decide (ofNat 0 ≤ wrap .i64 (r.2.1 + ofNat 1)) && (decide (wrap .i64 (r.2.1 + ofNat 1) ≤ ofNat (length (List.set r.2.2.1 (toNat r.2.1) r.1))) && decide (ofNat (length (List.set r.2.2.1 (toNat r.2.1) r.1)) ≤ ofNat (length (List.set r.2.2.1 (toNat r.2.1) r.1)))) then some (List.drop 0 (List.take (0 + toNat (wrap .i64 (r.2.1 + ofNat 1))) (List.set r.2.2.1 (toNat r.2.1) r.1)),()) else none else none else none else bif decide (ofNat 0 ≤ bif decide (wrap .i64 (ofNat (size x0) + ofNat 1) < x3) then wrap .i64 (ofNat (size x0) + ofNat 1) else x3) && (decide ((bif decide (wrap .i64 (ofNat (size x0) + ofNat 1) < x3) then wrap .i64 (ofNat (size x0) + ofNat 1) else x3) ≤ bif decide (wrap .i64 (ofNat (size x0) + ofNat 1) < x3) then wrap .i64 (ofNat (size x0) + ofNat 1) else x3) && decide ((ofNat 16 * bif decide (wrap .i64 (ofNat (size x0) + ofNat 1) < x3) then wrap .i64 (ofNat (size x0) + ofNat 1) else x3) ≤ ofNat 281474976710656) && decide ((bif decide (wrap .i64 (ofNat (size x0) + ofNat 1) < x3) then wrap .i64 (ofNat (size x0) + ofNat 1) else x3) ≤ ofNat 9223372036854775807)) then Option.bind (loop PB187_0 (x0,x1,x2,wrap .i64 ((bif decide (wrap .i64 (ofNat (size x0) + ofNat 1) < x3) then wrap .i64 (ofNat (size x0) + ofNat 1) else x3) - ofNat 1),ofNat 0,List.replicate (toNat (bif decide (wrap .i64 (ofNat (size x0) + ofNat 1) < x3) then wrap .i64 (ofNat (size x0) + ofNat 1) else x3)) (lit []),())) fun r => bif decide (ofNat 0 ≤ r.2.1) && decide (r.2.1 < ofNat (length r.2.2.1)) then Option.bind r.2.2.1[toNat r.2.1]? fun y => bif decide (ofNat 0 ≤ wrap .i64 (r.2.1 + ofNat 1)) && (decide (wrap .i64 (r.2.1 + ofNat 1) ≤ ofNat (length (List.set r.2.2.1 (toNat r.2.1) r.1))) && decide (ofNat (length (List.set r.2.2.1 (toNat r.2.1) r.1)) ≤ ofNat (length (List.set r.2.2.1 (toNat r.2.1) r.1)))) then some (List.drop 0 (List.take (0 + toNat (wrap .i64 (r.2.1 + ofNat 1))) (List.set r.2.2.1 (toNat r.2.1) r.1)),()) else none else none else none
theorem PF187_ok:F187 = PF187:=by
 funext p
 obtain ⟨x0,x1,x2,x3,⟨⟩⟩:=p
 unfold PF187
 rw [← PB187_0_ok,← PF236_ok]
 kernel_rfl
def PF136:ByteArray × ByteArray × Unit → Option (List ByteArray × Unit):=fun (x0,x1,_) =>
 Option.bind (PF187 (x0,x1,ofNat 0,Int.negSucc 0,())) fun r => some (r.1,())
theorem PF136_ok:F136 = PF136:=by
 funext p
 obtain ⟨x0,x1,⟨⟩⟩:=p
 unfold PF136
 rw [← PF187_ok]
 kernel_rfl
def PB194_0:ByteArray × Int × Int × Unit → Option ((ByteArray × Int × Int × Unit) ⊕ (Int × Unit) ⊕ (Unit)):=fun (x0,x1,x2,_) =>
 bif decide (x2 ≥ ofNat 0) then bif decide (ofNat 0 ≤ x2) && decide (x2 < ofNat (size x0)) then bif bt x0 x2 == x1 then some (inr (inl (x2,()))) else some (inl (x0,x1,wrap .i64 (x2 - ofNat 1),())) else none else some (inr (inr ()))
theorem PB194_0_ok:B194_0 = PB194_0:=by
 funext p
 obtain ⟨x0,x1,x2,⟨⟩⟩:=p
 unfold PB194_0
 kernel_rfl
def PF194:ByteArray × Int × Unit → Option (Int × Unit):=fun (x0,x1,_) =>
 Option.bind (loop PB194_0 (x0,x1,wrap .i64 (ofNat (size x0) - ofNat 1),())) fun r => elim (fun p => some (p.1,())) (fun p => some (Int.negSucc 0,())) r
theorem PF194_ok:F194 = PF194:=by
 funext p
 obtain ⟨x0,x1,⟨⟩⟩:=p
 unfold PF194
 rw [← PB194_0_ok]
 kernel_rfl
def PF144:ByteArray × Int × Unit → Option (Int × Unit):=fun (x0,x1,_) =>
 Option.bind (PF194 (x0,x1,())) fun r => some (r.1,())
theorem PF144_ok:F144 = PF144:=by
 funext p
 obtain ⟨x0,x1,⟨⟩⟩:=p
 unfold PF144
 rw [← PF194_ok]
 kernel_rfl
def PF195:ByteArray × ByteArray × Unit → Option (Bool × Unit):=fun (x0,x1,_) =>
 bif decide (ofNat (size x0) ≥ ofNat (size x1)) then bif decide (ofNat 0 ≤ ofNat (size x1)) && decide (ofNat (size x1) ≤ ofNat (size x0)) then some (bl (ByteArray.extract x0 0 (toNat (ofNat (size x1)))) == bl x1,()) else none else some (false,())
theorem PF195_ok:F195 = PF195:=by
 funext p
 obtain ⟨x0,x1,⟨⟩⟩:=p
 unfold PF195
 kernel_rfl
def PF145:ByteArray × ByteArray × Unit → Option (Bool × Unit):=fun (x0,x1,_) =>
 Option.bind (PF195 (x0,x1,())) fun r => some (r.1,())
theorem PF145_ok:F145 = PF145:=by
 funext p
 obtain ⟨x0,x1,⟨⟩⟩:=p
 unfold PF145
 rw [← PF195_ok]
 kernel_rfl
def PB146_0:ByteArray × Int × Int × Int × Unit → Option ((ByteArray × Int × Int × Int × Unit) ⊕ (Int × Bool × Unit) ⊕ (Int × Unit)):=fun (x0,x1,x2,x3,_) =>
 bif decide (x3 < x2) then bif decide (ofNat 0 ≤ x3) && decide (x3 < ofNat (size x0)) then bif decide (bt x0 x3 < ofNat 48) then some (inr (inl (ofNat 0,false,()))) else bif decide (ofNat 0 ≤ x3) && decide (x3 < ofNat (size x0)) then bif decide (bt x0 x3 > ofNat 57) then some (inr (inl (ofNat 0,false,()))) else bif decide (ofNat 0 ≤ x3) && decide (x3 < ofNat (size x0)) then some (inl (x0,wrap .i64 (wrap .i64 (ofNat 10 * x1) + wrap .i64 (wrap .u8 (bt x0 x3 - ofNat 48))),x2,wrap .i64 (x3 + ofNat 1),())) else none else none else none else some (inr (inr (x1,())))
theorem PB146_0_ok:B146_0 = PB146_0:=by
 funext p
 obtain ⟨x0,x1,x2,x3,⟨⟩⟩:=p
 unfold PB146_0
 kernel_rfl
def PF146:ByteArray × Unit → Option (Int × Bool × Unit):=fun (x0,_) =>
 bif decide (ofNat (size x0) < ofNat 1) then some (ofNat 0,false,()) else bif decide (ofNat (size x0) > ofNat 9) then some (ofNat 0,false,()) else bif decide (ofNat (size x0) > ofNat 1) then bif decide (ofNat 0 < ofNat (size x0)) then bif bt x0 (ofNat 0) == ofNat 48 then some (ofNat 0,false,()) else Option.bind (loop PB146_0 (x0,ofNat 0,ofNat (size x0),ofNat 0,())) fun r => elim (fun p => some (p.1,p.2.1,())) (fun p => some (p.1,true,())) r else none else Option.bind (loop PB146_0 (x0,ofNat 0,ofNat (size x0),ofNat 0,())) fun r => elim (fun p => some (p.1,p.2.1,())) (fun p => some (p.1,true,())) r
theorem PF146_ok:F146 = PF146:=by
 funext p
 obtain ⟨x0,⟨⟩⟩:=p
 unfold PF146
 rw [← PB146_0_ok]
 kernel_rfl
def PF88:ByteArray × Unit → Option (ByteArray × ByteArray × Int × Unit):=fun (x0,_) =>
 Option.bind (PF144 (x0,ofNat 47,())) fun r => bif decide (r.1 ≥ ofNat 1) then bif decide (ofNat 0 ≤ r.1) && (decide (r.1 ≤ ofNat (size x0)) && decide (ofNat (size x0) ≤ ofNat (size x0))) then Option.bind (PF145 (ByteArray.extract x0 (toNat r.1) (toNat (ofNat (size x0))),(lit [47,118]),())) fun r_1 => bif r_1.1 then bif decide (ofNat 0 ≤ wrap .i64 (r.1 + ofNat 2)) && (decide (wrap .i64 (r.1 + ofNat 2) ≤ ofNat (size x0)) && decide (ofNat (size x0) ≤ ofNat (size x0))) then Option.bind (PF146 (ByteArray.extract x0 (toNat (wrap .i64 (r.1 + ofNat 2))) (toNat (ofNat (size x0))),())) fun r_2 => bif r_2.2.1 then bif decide (r_2.1 ≥ ofNat 2) then bif decide (r_2.1 ≤ ofNat 999999) then bif decide (ofNat 0 ≤ r.1) && decide (r.1 ≤ ofNat (size x0)) then some (x0,ByteArray.extract x0 0 (toNat r.1),r_2.1,()) else none else some (x0,x0,ofNat 0,()) else some (x0,x0,ofNat 0,()) else some (x0,x0,ofNat 0,()) else none else some (x0,x0,ofNat 0,()) else none else some (x0,x0,ofNat 0,())
theorem PF88_ok:F88 = PF88:=by
 funext p
 obtain ⟨x0,⟨⟩⟩:=p
 unfold PF88
 rw [← PF144_ok,← PF145_ok,← PF146_ok]
 kernel_rfl
def PF147:ByteArray × Unit → Option (ByteArray × Unit):=fun (x0,_) =>
 bif ofNat (size x0) == ofNat 0 then some ((lit []),()) else bif decide (ofNat 0 ≤ ofNat (size x0)) && (decide (ofNat (size x0) ≤ ofNat (size x0)) && decide (ofNat 1 * ofNat (size x0) ≤ ofNat 281474976710656) && decide (ofNat (size x0) ≤ ofNat 9223372036854775807)) then bif decide (size x0 ≤ length (List.replicate (toNat (ofNat (size x0))) (ofNat 0))) then bif decide (ofNat 0 < ofNat (length (List.map (fun b => ofNat b.1.1.1) (bl x0) ++ List.drop (size x0) (List.replicate (toNat (ofNat (size x0))) (ofNat 0))))) then bif ofNat (length (List.map (fun b => ofNat b.1.1.1) (bl x0) ++ List.drop (size x0) (List.replicate (toNat (ofNat (size x0))) (ofNat 0)))) == ofNat (length (List.map (fun b => ofNat b.1.1.1) (bl x0) ++ List.drop (size x0) (List.replicate (toNat (ofNat (size x0))) (ofNat 0)))) && okBytes (List.map (fun b => ofNat b.1.1.1) (bl x0) ++ List.drop (size x0) (List.replicate (toNat (ofNat (size x0))) (ofNat 0))) then some (bstr (List.map (fun b => ofNat b.1.1.1) (bl x0) ++ List.drop (size x0) (List.replicate (toNat (ofNat (size x0))) (ofNat 0))),()) else none else none else none else none
theorem PF147_ok:F147 = PF147:=by
 funext p
 obtain ⟨x0,⟨⟩⟩:=p
 unfold PF147
 kernel_rfl
def PF89:ByteArray × Unit → Option (ByteArray × Unit):=fun (x0,_) =>
 Option.bind (PF147 (x0,())) fun r => some (r.1,())
theorem PF89_ok:F89 = PF89:=by
 funext p
 obtain ⟨x0,⟨⟩⟩:=p
 unfold PF89
 rw [← PF147_ok]
 kernel_rfl
def PF148:ByteArray × ByteArray × Unit → Option (ByteArray × Bool × Unit):=fun (x0,x1,_) =>
 Option.bind (PF195 (x0,x1,())) fun r => bif !r.1 then some (x0,false,()) else bif decide (ofNat 0 ≤ ofNat (size x1)) && (decide (ofNat (size x1) ≤ ofNat (size x0)) && decide (ofNat (size x0) ≤ ofNat (size x0))) then some (ByteArray.extract x0 (toNat (ofNat (size x1))) (toNat (ofNat (size x0))),true,()) else none
theorem PF148_ok:F148 = PF148:=by
 funext p
 obtain ⟨x0,x1,⟨⟩⟩:=p
 unfold PF148
 rw [← PF195_ok]
 kernel_rfl
def PF90:ByteArray × ByteArray × Unit → Option (ByteArray × Bool × Unit):=fun (x0,x1,_) =>
 Option.bind (PF148 (x0,x1,())) fun r => some (r.1,r.2.1,())
theorem PF90_ok:F90 = PF90:=by
 funext p
 obtain ⟨x0,x1,⟨⟩⟩:=p
 unfold PF90
 rw [← PF148_ok]
 kernel_rfl
def PF60:ByteArray × ByteArray × Unit → Option (Bool × Unit):=fun (x0,x1,_) =>
 Option.bind (PF90 (x0,x1,())) fun r => bif r.2.1 then bif bl r.1 == [] then some (true,()) else bif decide (ofNat 0 < ofNat (size r.1)) then some (bt r.1 (ofNat 0) == ofNat 47,()) else none else some (false,())
theorem PF60_ok:F60 = PF60:=by
 funext p
 obtain ⟨x0,x1,⟨⟩⟩:=p
 unfold PF60
 rw [← PF90_ok]
 kernel_rfl
def PF196:ByteArray × ByteArray × Unit → Option (ByteArray × ByteArray × Bool × Unit):=fun (x0,x1,_) =>
 Option.bind (PF239 (x0,x1,())) fun r => bif decide (r.1 ≥ ofNat 0) then bif decide (ofNat 0 ≤ r.1) && decide (r.1 ≤ ofNat (size x0)) then bif decide (ofNat 0 ≤ wrap .i64 (r.1 + ofNat (size x1))) && (decide (wrap .i64 (r.1 + ofNat (size x1)) ≤ ofNat (size x0)) && decide (ofNat (size x0) ≤ ofNat (size x0))) then some (ByteArray.extract x0 0 (toNat r.1),ByteArray.extract x0 (toNat (wrap .i64 (r.1 + ofNat (size x1)))) (toNat (ofNat (size x0))),true,()) else none else none else some (x0,(lit []),false,())
theorem PF196_ok:F196 = PF196:=by
 funext p
 obtain ⟨x0,x1,⟨⟩⟩:=p
 unfold PF196
 rw [← PF239_ok]
 kernel_rfl
def PF149:ByteArray × ByteArray × Unit → Option (ByteArray × ByteArray × Bool × Unit):=fun (x0,x1,_) =>
 Option.bind (PF196 (x0,x1,())) fun r => some (r.1,r.2.1,r.2.2.1,())
theorem PF149_ok:F149 = PF149:=by
 funext p
 obtain ⟨x0,x1,⟨⟩⟩:=p
 unfold PF149
 rw [← PF196_ok]
 kernel_rfl
def PF197:Int × Unit → Option (Bool × Unit):=fun (x0,_) =>
 bif decide (x0 ≥ ofNat 0) then some (decide (x0 ≤ ofNat 999999),()) else some (false,())
theorem PF197_ok:F197 = PF197:=by
 funext p
 obtain ⟨x0,⟨⟩⟩:=p
 unfold PF197
 kernel_rfl
def PF241:ByteArray × Int × Unit → Option (Int × Unit):=fun (x0,x1,_) =>
 Option.bind (PF272 (x0,x1,())) fun r => some (r.1,())
theorem PF241_ok:F241 = PF241:=by
 funext p
 obtain ⟨x0,x1,⟨⟩⟩:=p
 unfold PF241
 rw [← PF272_ok]
 kernel_rfl
def PB200_0:ByteArray × Int × Int × Unit → Option ((ByteArray × Int × Int × Unit) ⊕ (Bool × Unit) ⊕ (ByteArray × Unit)):=fun (x0,x1,x2,_) =>
 bif decide (x2 < x1) then bif decide (ofNat 0 ≤ x2) && decide (x2 < ofNat (size x0)) then Option.bind (PF241 ((lit [97,98,99,100,101,102,103,104,105,106,107,108,109,110,111,112,113,114,115,116,117,118,119,120,121,122,65,66,67,68,69,70,71,72,73,74,75,76,77,78,79,80,81,82,83,84,85,86,87,88,89,90,48,49,50,51,52,53,54,55,56,57,45]),bt x0 x2,())) fun r => bif decide (r.1 < ofNat 0) then some (inr (inl (false,()))) else some (inl (x0,x1,wrap .i64 (x2 + ofNat 1),())) else none else some (inr (inr (x0,())))
theorem PB200_0_ok:B200_0 = PB200_0:=by
 funext p
 obtain ⟨x0,x1,x2,⟨⟩⟩:=p
 unfold PB200_0
 rw [← PF241_ok]
 kernel_rfl
def PF200:ByteArray × Unit → Option (Bool × Unit):=fun (x0,_) =>
 Option.bind (loop PB200_0 (x0,ofNat (size x0),ofNat 0,())) fun r => elim (fun p => some (p.1,())) (fun p => bif !bl p.1 == [] then bif decide (ofNat (size p.1) > ofNat 1) then bif decide (ofNat 0 < ofNat (size p.1)) then bif bt p.1 (ofNat 0) == ofNat 48 then Option.bind (PF188 (p.1,())) fun r => some (!r.1,()) else some (true,()) else none else some (true,()) else some (false,())) r
theorem PF200_ok:F200 = PF200:=by
 funext p
 obtain ⟨x0,⟨⟩⟩:=p
 unfold PF200
 rw [← PB200_0_ok,← PF188_ok]
 kernel_rfl
def PF199:ByteArray × Unit → Option (Bool × Unit):=fun (x0,_) =>
 Option.bind (PF200 (x0,())) fun r => some (!r.1,())
theorem PF199_ok:F199 = PF199:=by
 funext p
 obtain ⟨x0,⟨⟩⟩:=p
 unfold PF199
 rw [← PF200_ok]
 kernel_rfl
def PB240_0:List ByteArray × Int × Int × Unit → Option ((List ByteArray × Int × Int × Unit) ⊕ (Int × Unit) ⊕ (Unit)):=fun (x0,x1,x2,_) =>
 bif decide (x2 < x1) then bif decide (ofNat 0 ≤ x2) then Option.bind x0[toNat x2]? fun y => Option.bind (PF199 (y,())) fun r => bif r.1 then some (inr (inl (x2,()))) else some (inl (x0,x1,wrap .i64 (x2 + ofNat 1),())) else none else some (inr (inr ()))
theorem PB240_0_ok:B240_0 = PB240_0:=by
 funext p
 obtain ⟨x0,x1,x2,⟨⟩⟩:=p
 unfold PB240_0
 rw [← PF199_ok]
 kernel_rfl
def PF240:List ByteArray × Unit → Option (Int × Unit):=fun (x0,_) =>
 Option.bind (loop PB240_0 (x0,ofNat (length x0),ofNat 0,())) fun r => elim (fun p => some (p.1,())) (fun p => some (Int.negSucc 0,())) r
theorem PF240_ok:F240 = PF240:=by
 funext p
 obtain ⟨x0,⟨⟩⟩:=p
 unfold PF240
 rw [← PB240_0_ok]
 kernel_rfl
def PF198:List ByteArray × Unit → Option (Bool × Unit):=fun (x0,_) =>
 Option.bind (PF240 (x0,())) fun r => some (decide (r.1 ≥ ofNat 0),())
theorem PF198_ok:F198 = PF198:=by
 funext p
 obtain ⟨x0,⟨⟩⟩:=p
 unfold PF198
 rw [← PF240_ok]
 kernel_rfl
def PF150:Int × Int × Int × ByteArray × Unit → Option (Bool × Unit):=fun (x0,x1,x2,x3,_) =>
 Option.bind (PF197 (x0,())) fun r => bif !r.1 then some (false,()) else Option.bind (PF197 (x1,())) fun r => bif !r.1 then some (false,()) else Option.bind (PF197 (x2,())) fun r => bif !r.1 then some (false,()) else bif decide (ofNat (size x3) > ofNat 40) then some (false,()) else bif bl x3 == [] then some (true,()) else Option.bind (PF136 (x3,(lit [46]),())) fun r => Option.bind (PF198 (r.1,())) fun r => some (!r.1,())
theorem PF150_ok:F150 = PF150:=by
 funext p
 obtain ⟨x0,x1,x2,x3,⟨⟩⟩:=p
 unfold PF150
 rw [← PF136_ok,← PF197_ok,← PF198_ok]
 kernel_rfl
def PB91_0:ByteArray × List ByteArray × Int × Int × Int × Int × Int × ByteArray × Int × Int × Int × ByteArray × Unit → Option ((ByteArray × List ByteArray × Int × Int × Int × Int × Int × ByteArray × Int × Int × Int × ByteArray × Unit) ⊕ (Bool × Int × Int × Int × ByteArray × Unit) ⊕ (ByteArray × Int × Int × Int × ByteArray × Int × Int × Int × ByteArray × Unit)):=fun (x0,x1,x2,x3,x4,x5,x6,x7,x8,x9,x10,x11,_) =>
 bif decide (x3 < x2) then bif x3 == ofNat 0 then bif decide (ofNat 0 ≤ x3) then Option.bind x1[toNat x3]? fun y => Option.bind (PF146 (y,())) fun r => bif !r.2.1 then some (inr (inl (false,ofNat 0,ofNat 0,ofNat 0,(lit []),()))) else some (inl (x0,x1,x2,wrap .i64 (x3 + ofNat 1),x4,x5,x6,x7,r.1,x9,x10,x11,())) else none else bif x3 == ofNat 1 then bif decide (ofNat 0 ≤ x3) then Option.bind x1[toNat x3]? fun y => Option.bind (PF146 (y,())) fun r => bif !r.2.1 then some (inr (inl (false,ofNat 0,ofNat 0,ofNat 0,(lit []),()))) else some (inl (x0,x1,x2,wrap .i64 (x3 + ofNat 1),x4,x5,x6,x7,x8,r.1,x10,x11,())) else none else bif x3 == ofNat 2 then bif decide (ofNat 0 ≤ x3) then Option.bind x1[toNat x3]? fun y => Option.bind (PF146 (y,())) fun r => bif !r.2.1 then some (inr (inl (false,ofNat 0,ofNat 0,ofNat 0,(lit []),()))) else some (inl (x0,x1,x2,wrap .i64 (x3 + ofNat 1),x4,x5,x6,x7,x8,x9,r.1,x11,())) else none else none else some (inr (inr (x0,x4,x5,x6,x7,x8,x9,x10,x11,())))
theorem PB91_0_ok:B91_0 = PB91_0:=by
 funext p
 obtain ⟨x0,x1,x2,x3,x4,x5,x6,x7,x8,x9,x10,x11,⟨⟩⟩:=p
 unfold PB91_0
 rw [← PF146_ok]
 kernel_rfl
def PF91:ByteArray × Unit → Option (Int × Int × Int × ByteArray × Bool × Unit):=fun (x0,_) =>
 Option.bind (PF90 (x0,(lit [118]),())) fun r => Option.bind (PF149 (r.1,(lit [45]),())) fun r_1 => Option.bind (PF136 (r_1.1,(lit [46]),())) fun r_2 => bif !r.2.1 then some (ofNat 0,ofNat 0,ofNat 0,(lit []),false,()) else bif !ofNat (length r_2.1) == ofNat 3 then some (ofNat 0,ofNat 0,ofNat 0,(lit []),false,()) else bif r_1.2.2.1 then bif bl r_1.2.1 == [] then some (ofNat 0,ofNat 0,ofNat 0,(lit []),false,()) else Option.bind (loop PB91_0 (r_1.2.1,r_2.1,ofNat 3,ofNat 0,ofNat 0,ofNat 0,ofNat 0,(lit []),ofNat 0,ofNat 0,ofNat 0,(lit []),())) fun r => elim (fun p => some (p.2.1,p.2.2.1,p.2.2.2.1,p.2.2.2.2.1,p.1,())) (fun p => Option.bind (PF89 (p.1,())) fun r => Option.bind (PF150 (p.2.2.2.2.2.1,p.2.2.2.2.2.2.1,p.2.2.2.2.2.2.2.1,r.1,())) fun r_3 => bif !r_3.1 then some (ofNat 0,ofNat 0,ofNat 0,(lit []),false,()) else some (p.2.2.2.2.2.1,p.2.2.2.2.2.2.1,p.2.2.2.2.2.2.2.1,r.1,true,())) r else Option.bind (loop PB91_0 (r_1.2.1,r_2.1,ofNat 3,ofNat 0,ofNat 0,ofNat 0,ofNat 0,(lit []),ofNat 0,ofNat 0,ofNat 0,(lit []),())) fun r => elim (fun p => some (p.2.1,p.2.2.1,p.2.2.2.1,p.2.2.2.2.1,p.1,())) (fun p => Option.bind (PF89 (p.1,())) fun r => Option.bind (PF150 (p.2.2.2.2.2.1,p.2.2.2.2.2.2.1,p.2.2.2.2.2.2.2.1,r.1,())) fun r_3 => bif !r_3.1 then some (ofNat 0,ofNat 0,ofNat 0,(lit []),false,()) else some (p.2.2.2.2.2.1,p.2.2.2.2.2.2.1,p.2.2.2.2.2.2.2.1,r.1,true,())) r
theorem PF91_ok:F91 = PF91:=by
 funext p
 obtain ⟨x0,⟨⟩⟩:=p
 unfold PF91
 rw [← PB91_0_ok,← PF136_ok,← PF149_ok,← PF150_ok,← PF89_ok,← PF90_ok]
 kernel_rfl
def PF242:ByteArray × ByteArray × Unit → Option (Bool × Unit):=fun (x0,x1,_) =>
 bif !bl x0 == [] then Option.bind (FTrim (x0,x1,())) fun r => some (bl r.1 == [],()) else some (false,())
theorem PF242_ok:F242 = PF242:=by
 funext p
 obtain ⟨x0,x1,⟨⟩⟩:=p
 unfold PF242
 kernel_rfl
def PF201:ByteArray × Unit → Option (Bool × Unit):=fun (x0,_) =>
 bif decide (ofNat (size x0) ≥ ofNat 12) then bif decide (ofNat (size x0) ≤ ofNat 40) then Option.bind (PF242 (x0,(lit [48,49,50,51,52,53,54,55,56,57,97,98,99,100,101,102]),())) fun r => some (r.1,()) else some (false,()) else some (false,())
theorem PF201_ok:F201 = PF201:=by
 funext p
 obtain ⟨x0,⟨⟩⟩:=p
 unfold PF201
 rw [← PF242_ok]
 kernel_rfl
def PF151:Bool × Int × Int × Int × ByteArray × Int × ByteArray × Unit → Option (Int × Int × Int × ByteArray × Bool × Unit):=fun (x0,x1,x2,x3,x4,x5,x6,_) =>
 bif decide (x5 < ofNat 0) then some (ofNat 0,ofNat 0,ofNat 0,(lit []),false,()) else bif decide (x5 ≥ ofNat 100000000000000) then some (ofNat 0,ofNat 0,ofNat 0,(lit []),false,()) else Option.bind (PF201 (x6,())) fun r => bif !r.1 then some (ofNat 0,ofNat 0,ofNat 0,(lit []),false,()) else Option.bind (FItoa (wrap .i64 (ofNat 100000000000000 + x5),())) fun r => bif decide (ofNat 1 ≤ ofNat (size r.1)) && decide (ofNat (size r.1) ≤ ofNat (size r.1)) then bif fitsS (ByteArray.extract r.1 1 (toNat (ofNat (size r.1)))) (lit [45]) then bif decide (ofNat 12 ≤ ofNat (size x6)) then bif fitsS (ByteArray.extract r.1 1 (toNat (ofNat (size r.1))) ++ (lit [45])) (ByteArray.extract x6 0 12) then bif !x0 then Option.bind (PF150 (ofNat 0,ofNat 0,ofNat 0,ByteArray.extract r.1 1 (toNat (ofNat (size r.1))) ++ (lit [45]) ++ ByteArray.extract x6 0 12,())) fun r_1 => bif !r_1.1 then some (ofNat 0,ofNat 0,ofNat 0,(lit []),false,()) else some (ofNat 0,ofNat 0,ofNat 0,ByteArray.extract r.1 1 (toNat (ofNat (size r.1))) ++ (lit [45]) ++ ByteArray.extract x6 0 12,true,()) else bif bl x4 == [] then bif fitsS (lit [48,46]) (ByteArray.extract r.1 1 (toNat (ofNat (size r.1))) ++ (lit [45]) ++ ByteArray.extract x6 0 12) then Option.bind (PF150 (x1,x2,wrap .i64 (x3 + ofNat 1),(lit [48,46]) ++ (ByteArray.extract r.1 1 (toNat (ofNat (size r.1))) ++ (lit [45]) ++ ByteArray.extract x6 0 12),())) fun r_1 => bif !r_1.1 then some (ofNat 0,ofNat 0,ofNat 0,(lit []),false,()) else some (x1,x2,wrap .i64 (x3 + ofNat 1),(lit [48,46]) ++ (ByteArray.extract r.1 1 (toNat (ofNat (size r.1))) ++ (lit [45]) ++ ByteArray.extract x6 0 12),true,()) else none else bif fitsS (lit [46,48,46]) (ByteArray.extract r.1 1 (toNat (ofNat (size r.1))) ++ (lit [45]) ++ ByteArray.extract x6 0 12) then bif fitsS x4 ((lit [46,48,46]) ++ (ByteArray.extract r.1 1 (toNat (ofNat (size r.1))) ++ (lit [45]) ++ ByteArray.extract x6 0 12)) then Option.bind (PF150 (x1,x2,x3,x4 ++ ((lit [46,48,46]) ++ (ByteArray.extract r.1 1 (toNat (ofNat (size r.1))) ++ (lit [45]) ++ ByteArray.extract x6 0 12)),())) fun r_1 => bif !r_1.1 then some (ofNat 0,ofNat 0,ofNat 0,(lit []),false,()) else some (x1,x2,x3,x4 ++ ((lit [46,48,46]) ++ (ByteArray.extract r.1 1 (toNat (ofNat (size r.1))) ++ (lit [45]) ++ ByteArray.extract x6 0 12)),true,()) else none else none else none else none else none else none
theorem PF151_ok:F151 = PF151:=by
 funext p
 obtain ⟨x0,x1,x2,x3,x4,x5,x6,⟨⟩⟩:=p
 unfold PF151
 rw [← PF150_ok,← PF201_ok]
 kernel_rfl
def PF115:ByteArray × ByteArray × Unit → Option (Bool × Unit):=fun (x0,x1,_) =>
 bif bl x0 == bl x1 then some (true,()) else bif decide (ofNat (size x0) > ofNat (size x1)) then bif decide (ofNat 0 ≤ wrap .i64 (ofNat (size x1) + ofNat 1)) && decide (wrap .i64 (ofNat (size x1) + ofNat 1) ≤ ofNat (size x0)) then bif fitsS x1 (lit [47]) then some (bl (ByteArray.extract x0 0 (toNat (wrap .i64 (ofNat (size x1) + ofNat 1)))) == bl (x1 ++ (lit [47])),()) else none else none else some (false,())
theorem PF115_ok:F115 = PF115:=by
 funext p
 obtain ⟨x0,x1,⟨⟩⟩:=p
 unfold PF115
 kernel_rfl
def PB41_0:ByteArray × Int × Int × Unit → Option ((ByteArray × Int × Int × Unit) ⊕ (Int × Bool × Unit) ⊕ (Int × Unit)):=fun (x0,x1,x2,_) =>
 bif decide (x2 < ofNat (size x0)) then bif decide (ofNat 0 ≤ x2) && decide (x2 < ofNat (size x0)) then bif decide (bt x0 x2 < ofNat 48) then some (inr (inl (ofNat 0,false,()))) else bif decide (ofNat 0 ≤ x2) && decide (x2 < ofNat (size x0)) then bif decide (bt x0 x2 > ofNat 57) then some (inr (inl (ofNat 0,false,()))) else bif decide (ofNat 0 ≤ x2) && decide (x2 < ofNat (size x0)) then some (inl (x0,wrap .i64 (wrap .i64 (ofNat 10 * x1) + wrap .i64 (wrap .u8 (bt x0 x2 - ofNat 48))),wrap .i64 (x2 + ofNat 1),())) else none else none else none else some (inr (inr (x1,())))
theorem PB41_0_ok:B41_0 = PB41_0:=by
 funext p
 obtain ⟨x0,x1,x2,⟨⟩⟩:=p
 unfold PB41_0
 kernel_rfl
def PF41:ByteArray × Unit → Option (Int × Bool × Unit):=fun (x0,_) =>
 bif decide (ofNat (size x0) < ofNat 1) then some (ofNat 0,false,()) else bif decide (ofNat (size x0) > ofNat 9) then some (ofNat 0,false,()) else bif decide (ofNat (size x0) > ofNat 1) then bif decide (ofNat 0 < ofNat (size x0)) then bif bt x0 (ofNat 0) == ofNat 48 then some (ofNat 0,false,()) else Option.bind (loop PB41_0 (x0,ofNat 0,ofNat 0,())) fun r => elim (fun p => some (p.1,p.2.1,())) (fun p => some (p.1,true,())) r else none else Option.bind (loop PB41_0 (x0,ofNat 0,ofNat 0,())) fun r => elim (fun p => some (p.1,p.2.1,())) (fun p => some (p.1,true,())) r
theorem PF41_ok:F41 = PF41:=by
 funext p
 obtain ⟨x0,⟨⟩⟩:=p
 unfold PF41
 rw [← PB41_0_ok]
 kernel_rfl
def PB169_0:ByteArray × Int × Int × Int × ByteArray × Int × Int × Int × Int × Bool × Int × Int × Int × ByteArray × Int × Int × Int × Unit → Option ((ByteArray × Int × Int × Int × ByteArray × Int × Int × Int × Int × Bool × Int × Int × Int × ByteArray × Int × Int × Int × Unit) ⊕ ByteArray × Int × Int × Int × ByteArray × Int × Int × Int × Int × Bool × Int × Int × Int × ByteArray × Int × Int × Int × Unit):=fun (x0,x1,x2,x3,x4,x5,x6,x7,x8,x9,x10,x11,x12,x13,x14,x15,x16,_) =>
 bif decide (x1 < ofNat (size x0)) then bif decide (ofNat 0 ≤ x1) && decide (x1 < ofNat (size x0)) then Option.bind (PF141 (bt x0 x1,())) fun r => bif r.1 then some (inl (x0,wrap .i64 (x1 + ofNat 1),x2,x3,x4,x5,x6,x7,x8,x9,x10,x11,x12,x13,x14,x15,x16,())) else some (inr (x0,x1,x2,x3,x4,x5,x6,x7,x8,x9,x10,x11,x12,x13,x14,x15,x16,())) else none else some (inr (x0,x1,x2,x3,x4,x5,x6,x7,x8,x9,x10,x11,x12,x13,x14,x15,x16,()))
theorem PB169_0_ok:B169_0 = PB169_0:=by
 funext p
 obtain ⟨x0,x1,x2,x3,x4,x5,x6,x7,x8,x9,x10,x11,x12,x13,x14,x15,x16,⟨⟩⟩:=p
 unfold PB169_0
 rw [← PF141_ok]
 kernel_rfl
def PB169_1:ByteArray × Int × Int × Int × Int × Int × ByteArray × Int × Int × Int × Unit → Option ((ByteArray × Int × Int × Int × Int × Int × ByteArray × Int × Int × Int × Unit) ⊕ (Bool × Int × Int × Int × ByteArray × Unit) ⊕ (ByteArray × Int × Int × Int × Int × ByteArray × Int × Int × Int × Unit)):=fun (x0,x1,x2,x3,x4,x5,x6,x7,x8,x9,_) =>
 bif decide (x2 < ofNat 3) then bif decide (x1 ≥ ofNat (size x0)) then some (inr (inl (false,ofNat 0,ofNat 0,ofNat 0,(lit []),()))) else bif decide (ofNat 0 ≤ x1) && decide (x1 < ofNat (size x0)) then bif decide (ofNat 0 ≤ x2) && decide (x2 < ofNat 3) then bif !bt x0 x1 == bt (lit [118,46,46]) x2 then some (inr (inl (false,ofNat 0,ofNat 0,ofNat 0,(lit []),()))) else Option.bind (loop PB169_0 (x0,wrap .i64 (x1 + ofNat 1),x2,wrap .i64 (x1 + ofNat 1),x0,x1,bt x0 x1,x2,bt (lit [118,46,46]) x2,!bt x0 x1 == bt (lit [118,46,46]) x2,x3,x4,x5,x6,x7,x8,x9,())) fun r => bif decide (ofNat 0 ≤ r.2.2.2.1) && (decide (r.2.2.2.1 ≤ r.2.1) && decide (r.2.1 ≤ ofNat (size r.1))) then Option.bind (PF41 (ByteArray.extract r.1 (toNat r.2.2.2.1) (toNat r.2.1),())) fun r_1 => bif !r_1.2.1 then some (inr (inl (false,ofNat 0,ofNat 0,ofNat 0,(lit []),()))) else bif r.2.2.1 == ofNat 0 then some (inl (r.1,r.2.1,wrap .i64 (r.2.2.1 + ofNat 1),r.2.2.2.2.2.2.2.2.2.2.1,r.2.2.2.2.2.2.2.2.2.2.2.1,r.2.2.2.2.2.2.2.2.2.2.2.2.1,r.2.2.2.2.2.2.2.2.2.2.2.2.2.1,r_1.1,r.2.2.2.2.2.2.2.2.2.2.2.2.2.2.2.1,r.2.2.2.2.2.2.2.2.2.2.2.2.2.2.2.2.1,())) else bif r.2.2.1 == ofNat 1 then some (inl (r.1,r.2.1,wrap .i64 (r.2.2.1 + ofNat 1),r.2.2.2.2.2.2.2.2.2.2.1,r.2.2.2.2.2.2.2.2.2.2.2.1,r.2.2.2.2.2.2.2.2.2.2.2.2.1,r.2.2.2.2.2.2.2.2.2.2.2.2.2.1,r.2.2.2.2.2.2.2.2.2.2.2.2.2.2.1,r_1.1,r.2.2.2.2.2.2.2.2.2.2.2.2.2.2.2.2.1,())) else bif r.2.2.1 == ofNat 2 then some (inl (r.1,r.2.1,wrap .i64 (r.2.2.1 + ofNat 1),r.2.2.2.2.2.2.2.2.2.2.1,r.2.2.2.2.2.2.2.2.2.2.2.1,r.2.2.2.2.2.2.2.2.2.2.2.2.1,r.2.2.2.2.2.2.2.2.2.2.2.2.2.1,r.2.2.2.2.2.2.2.2.2.2.2.2.2.2.1,r.2.2.2.2.2.2.2.2.2.2.2.2.2.2.2.1,r_1.1,())) else none else none else none else none else some (inr (inr (x0,x1,x3,x4,x5,x6,x7,x8,x9,())))
theorem PB169_1_ok:B169_1 = PB169_1:=by
 funext p
 obtain ⟨x0,x1,x2,x3,x4,x5,x6,x7,x8,x9,⟨⟩⟩:=p
 unfold PB169_1
 rw [← PB169_0_ok,← PF41_ok]
 kernel_rfl
def PF169:ByteArray × Unit → Option (Int × Int × Int × ByteArray × Bool × Unit):=fun (x0,_) =>
 Option.bind (loop PB169_1 (x0,ofNat 0,ofNat 0,ofNat 0,ofNat 0,ofNat 0,(lit []),ofNat 0,ofNat 0,ofNat 0,())) fun r => elim (fun p => some (p.2.1,p.2.2.1,p.2.2.2.1,p.2.2.2.2.1,p.1,())) (fun p => bif decide (p.2.1 < ofNat (size p.1)) then bif decide (ofNat 0 ≤ p.2.1) && decide (p.2.1 < ofNat (size p.1)) then bif !bt p.1 p.2.1 == ofNat 45 then some (ofNat 0,ofNat 0,ofNat 0,(lit []),false,()) else bif wrap .i64 (p.2.1 + ofNat 1) == ofNat (size p.1) then some (ofNat 0,ofNat 0,ofNat 0,(lit []),false,()) else bif decide (ofNat 0 ≤ wrap .i64 (p.2.1 + ofNat 1)) && (decide (wrap .i64 (p.2.1 + ofNat 1) ≤ ofNat (size p.1)) && decide (ofNat (size p.1) ≤ ofNat (size p.1))) then Option.bind (PF86 (p.2.2.2.2.2.2.1,p.2.2.2.2.2.2.2.1,p.2.2.2.2.2.2.2.2.1,ByteArray.extract p.1 (toNat (wrap .i64 (p.2.1 + ofNat 1))) (toNat (ofNat (size p.1))),())) fun r => bif !r.1 then some (ofNat 0,ofNat 0,ofNat 0,(lit []),false,()) else some (p.2.2.2.2.2.2.1,p.2.2.2.2.2.2.2.1,p.2.2.2.2.2.2.2.2.1,ByteArray.extract p.1 (toNat (wrap .i64 (p.2.1 + ofNat 1))) (toNat (ofNat (size p.1))),true,()) else none else none else Option.bind (PF86 (p.2.2.2.2.2.2.1,p.2.2.2.2.2.2.2.1,p.2.2.2.2.2.2.2.2.1,(lit []),())) fun r => bif !r.1 then some (ofNat 0,ofNat 0,ofNat 0,(lit []),false,()) else some (p.2.2.2.2.2.2.1,p.2.2.2.2.2.2.2.1,p.2.2.2.2.2.2.2.2.1,(lit []),true,())) r
theorem PF169_ok:F169 = PF169:=by
 funext p
 obtain ⟨x0,⟨⟩⟩:=p
 unfold PF169
 rw [← PB169_1_ok,← PF86_ok]
 kernel_rfl
def PB40_0:ByteArray × Int × Int × List ByteArray × Unit → Option ((ByteArray × Int × Int × List ByteArray × Unit) ⊕ List ByteArray × Unit):=fun (x0,x1,x2,x3,_) =>
 bif decide (x2 ≤ ofNat (size x0)) then bif x2 == ofNat (size x0) then bif decide (ofNat 0 ≤ x1) && (decide (x1 ≤ x2) && decide (x2 ≤ ofNat (size x0))) then bif decide (length x3 + length [ByteArray.extract x0 (toNat x1) (toNat x2)] ≤ 8796093022208) then some (inl (x0,wrap .i64 (x2 + ofNat 1),wrap .i64 (x2 + ofNat 1),x3 ++ [ByteArray.extract x0 (toNat x1) (toNat x2)],())) else none else none else bif decide (ofNat 0 ≤ x2) && decide (x2 < ofNat (size x0)) then bif bt x0 x2 == ofNat 47 then bif decide (ofNat 0 ≤ x1) && (decide (x1 ≤ x2) && decide (x2 ≤ ofNat (size x0))) then bif decide (length x3 + length [ByteArray.extract x0 (toNat x1) (toNat x2)] ≤ 8796093022208) then some (inl (x0,wrap .i64 (x2 + ofNat 1),wrap .i64 (x2 + ofNat 1),x3 ++ [ByteArray.extract x0 (toNat x1) (toNat x2)],())) else none else none else some (inl (x0,x1,wrap .i64 (x2 + ofNat 1),x3,())) else none else some (inr (x3,()))
theorem PB40_0_ok:B40_0 = PB40_0:=by
 funext p
 obtain ⟨x0,x1,x2,x3,⟨⟩⟩:=p
 unfold PB40_0
 kernel_rfl
def PF40:ByteArray × Unit → Option (List ByteArray × Unit):=fun (x0,_) =>
 Option.bind (loop PB40_0 (x0,ofNat 0,ofNat 0,[],())) fun r => some (r.1,())
theorem PF40_ok:F40 = PF40:=by
 funext p
 obtain ⟨x0,⟨⟩⟩:=p
 unfold PF40
 rw [← PB40_0_ok]
 kernel_rfl
def PF19:ByteArray × Unit → Option (ByteArray × Int × Unit):=fun (x0,_) =>
 Option.bind (PF40 (x0,())) fun r => bif decide (ofNat 0 ≤ wrap .i64 (ofNat (length r.1) - ofNat 1)) then Option.bind r.1[toNat (wrap .i64 (ofNat (length r.1) - ofNat 1))]? fun y => bif decide (ofNat (length r.1) < ofNat 2) then some (x0,ofNat 0,()) else bif bl y == [] then some (x0,ofNat 0,()) else bif decide (ofNat 0 < ofNat (size y)) then bif !bt y (ofNat 0) == ofNat 118 then some (x0,ofNat 0,()) else bif decide (ofNat 1 ≤ ofNat (size y)) && decide (ofNat (size y) ≤ ofNat (size y)) then Option.bind (PF41 (ByteArray.extract y 1 (toNat (ofNat (size y))),())) fun r => bif !r.2.1 then some (x0,ofNat 0,()) else bif decide (r.1 < ofNat 2) then some (x0,ofNat 0,()) else bif decide (r.1 > ofNat 999999) then some (x0,ofNat 0,()) else bif decide (ofNat 0 ≤ wrap .i64 (wrap .i64 (ofNat (size x0) - ofNat (size y)) - ofNat 1)) && decide (wrap .i64 (wrap .i64 (ofNat (size x0) - ofNat (size y)) - ofNat 1) ≤ ofNat (size x0)) then some (ByteArray.extract x0 0 (toNat (wrap .i64 (wrap .i64 (ofNat (size x0) - ofNat (size y)) - ofNat 1))),r.1,()) else none else none else none else none
theorem PF19_ok:F19 = PF19:=by
 funext p
 obtain ⟨x0,⟨⟩⟩:=p
 unfold PF19
 rw [← PF40_ok,← PF41_ok]
 kernel_rfl
def PF173:Int × Int × Unit → Option (Int × Unit):=fun (x0,x1,_) =>
 bif decide (x0 < x1) then some (Int.negSucc 0,()) else bif decide (x0 > x1) then some (ofNat 1,()) else some (ofNat 0,())
theorem PF173_ok:F173 = PF173:=by
 funext p
 obtain ⟨x0,x1,⟨⟩⟩:=p
 unfold PF173
 kernel_rfl
def PF174:ByteArray × ByteArray × Unit → Option (Int × Unit):=fun (x0,x1,_) =>
 Option.bind (PF192 (x0,())) fun r => Option.bind (PF192 (x1,())) fun r_1 => bif r.1 then bif r_1.1 then bif !ofNat (size x0) == ofNat (size x1) then Option.bind (PF173 (ofNat (size x0),ofNat (size x1),())) fun r => some (r.1,()) else bif !r.1 == r_1.1 then bif r.1 then some (Int.negSucc 0,()) else some (ofNat 1,()) else bif Op.bytesLess (bl x0) (bl x1) then some (Int.negSucc 0,()) else bif !(Op.bytesLess (bl x0) (bl x1) || bl x0 == bl x1) then some (ofNat 1,()) else some (ofNat 0,()) else bif !r.1 == r_1.1 then bif r.1 then some (Int.negSucc 0,()) else some (ofNat 1,()) else bif Op.bytesLess (bl x0) (bl x1) then some (Int.negSucc 0,()) else bif !(Op.bytesLess (bl x0) (bl x1) || bl x0 == bl x1) then some (ofNat 1,()) else some (ofNat 0,()) else bif !r.1 == r_1.1 then bif r.1 then some (Int.negSucc 0,()) else some (ofNat 1,()) else bif Op.bytesLess (bl x0) (bl x1) then some (Int.negSucc 0,()) else bif !(Op.bytesLess (bl x0) (bl x1) || bl x0 == bl x1) then some (ofNat 1,()) else some (ofNat 0,())
theorem PF174_ok:F174 = PF174:=by
 funext p
 obtain ⟨x0,x1,⟨⟩⟩:=p
 unfold PF174
 rw [← PF173_ok,← PF192_ok]
 kernel_rfl
def PB117_0:Int × Int × Int × Int × ByteArray × Int × Int × Int × ByteArray × List Int × Unit → Option ((Int × Int × Int × Int × ByteArray × Int × Int × Int × ByteArray × List Int × Unit) ⊕ (Int × Unit) ⊕ (Int × Int × Int × ByteArray × Int × Int × Int × ByteArray × Unit)):=fun (x0,x1,x2,x3,x4,x5,x6,x7,x8,x9,_) =>
 bif decide (x0 < ofNat 3) then bif decide (ofNat 0 ≤ x0) then Option.bind x9[toNat x0]? fun y => bif !y == ofNat 0 then bif decide (ofNat 0 ≤ x0) then Option.bind x9[toNat x0]? fun y => some (inr (inl (y,()))) else none else some (inl (wrap .i64 (x0 + ofNat 1),x1,x2,x3,x4,x5,x6,x7,x8,x9,())) else none else some (inr (inr (x1,x2,x3,x4,x5,x6,x7,x8,())))
theorem PB117_0_ok:B117_0 = PB117_0:=by
 funext p
 obtain ⟨x0,x1,x2,x3,x4,x5,x6,x7,x8,x9,⟨⟩⟩:=p
 unfold PB117_0
 kernel_rfl
def PB117_1:List ByteArray × List ByteArray × Int × Unit → Option ((List ByteArray × List ByteArray × Int × Unit) ⊕ (Int × Unit) ⊕ (List ByteArray × List ByteArray × Unit)):=fun (x0,x1,x2,_) =>
 bif decide (x2 < ofNat (length x0)) then bif decide (x2 < ofNat (length x1)) then bif decide (ofNat 0 ≤ x2) then Option.bind x0[toNat x2]? fun y => bif decide (ofNat 0 ≤ x2) then Option.bind x1[toNat x2]? fun y_1 => Option.bind (PF174 (y,y_1,())) fun r => bif !r.1 == ofNat 0 then some (inr (inl (r.1,()))) else some (inl (x0,x1,wrap .i64 (x2 + ofNat 1),())) else none else none else some (inr (inr (x0,x1,()))) else some (inr (inr (x0,x1,())))
theorem PB117_1_ok:B117_1 = PB117_1:=by
 funext p
 obtain ⟨x0,x1,x2,⟨⟩⟩:=p
 unfold PB117_1
 rw [← PF174_ok]
 kernel_rfl
def PF117:Int × Int × Int × ByteArray × Int × Int × Int × ByteArray × Unit → Option (Int × Unit):=fun (x0,x1,x2,x3,x4,x5,x6,x7,_) =>
 Option.bind (PF173 (x0,x4,())) fun r => Option.bind (PF173 (x1,x5,())) fun r_1 => Option.bind (PF173 (x2,x6,())) fun r_2 => Option.bind (loop PB117_0 (ofNat 0,x0,x1,x2,x3,x4,x5,x6,x7,[r.1,r_1.1,r_2.1],())) fun r => elim (fun p => some (p.1,())) (fun p => bif bl p.2.2.2.1 == [] then Option.bind (PF173 (ofNat (size p.2.2.2.2.2.2.2.1),ofNat (size p.2.2.2.1),())) fun r => some (wrap .i64 (r.1 * bif decide (wrap .i64 (ofNat (size p.2.2.2.1) + ofNat (size p.2.2.2.2.2.2.2.1)) < ofNat 1) then wrap .i64 (ofNat (size p.2.2.2.1) + ofNat (size p.2.2.2.2.2.2.2.1)) else ofNat 1),()) else bif bl p.2.2.2.2.2.2.2.1 == [] then Option.bind (PF173 (ofNat (size p.2.2.2.2.2.2.2.1),ofNat (size p.2.2.2.1),())) fun r => some (wrap .i64 (r.1 * bif decide (wrap .i64 (ofNat (size p.2.2.2.1) + ofNat (size p.2.2.2.2.2.2.2.1)) < ofNat 1) then wrap .i64 (ofNat (size p.2.2.2.1) + ofNat (size p.2.2.2.2.2.2.2.1)) else ofNat 1),()) else Option.bind (PF142 (p.2.2.2.1,())) fun r => Option.bind (PF142 (p.2.2.2.2.2.2.2.1,())) fun r_3 => Option.bind (loop PB117_1 (r.1,r_3.1,ofNat 0,())) fun r => elim (fun p => some (p.1,())) (fun p => Option.bind (PF173 (ofNat (length p.1),ofNat (length p.2.1),())) fun r => some (r.1,())) r) r
theorem PF117_ok:F117 = PF117:=by
 funext p
 obtain ⟨x0,x1,x2,x3,x4,x5,x6,x7,⟨⟩⟩:=p
 unfold PF117
 rw [← PB117_0_ok,← PB117_1_ok,← PF142_ok,← PF173_ok]
 kernel_rfl
def PF220:Int × Int × Int × ByteArray × Int × Int × Int × ByteArray × Bool × Bool × Bool × Unit → Option (Bool × Unit):=fun (x0,x1,x2,x3,x4,x5,x6,x7,x8,x9,x10,_) =>
 Option.bind (PF117 (x4,x5,x6,x7,x0,x1,x2,x3,())) fun r => bif !x10 then bif decide (r.1 < ofNat 0) then some (true,()) else bif r.1 == ofNat 0 then bif x8 then some (true,()) else some (!x9,()) else some (false,()) else some (false,())
theorem PF220_ok:F220 = PF220:=by
 funext p
 obtain ⟨x0,x1,x2,x3,x4,x5,x6,x7,x8,x9,x10,⟨⟩⟩:=p
 unfold PF220
 rw [← PF117_ok]
 kernel_rfl
def PF221:Int × Int × Int × ByteArray × Int × Int × Int × ByteArray × Bool × Bool × Bool × Int × Int × Int × ByteArray × Int × Int × Int × ByteArray × Bool × Bool × Bool × Unit → Option (Bool × Unit):=fun (x0,x1,x2,x3,x4,x5,x6,x7,x8,x9,x10,x11,x12,x13,x14,x15,x16,x17,x18,x19,x20,x21,_) =>
 Option.bind (PF117 (x0,x1,x2,x3,x11,x12,x13,x14,())) fun r => bif decide (r.1 < ofNat 0) then some (true,()) else bif r.1 == ofNat 0 then bif !x8 then some (x19,()) else some (false,()) else some (false,())
theorem PF221_ok:F221 = PF221:=by
 funext p
 obtain ⟨x0,x1,x2,x3,x4,x5,x6,x7,x8,x9,x10,x11,x12,x13,x14,x15,x16,x17,x18,x19,x20,x21,⟨⟩⟩:=p
 unfold PF221
 rw [← PF117_ok]
 kernel_rfl
def PF222:Int × Int × Int × ByteArray × Int × Int × Int × ByteArray × Bool × Bool × Bool × Int × Int × Int × ByteArray × Int × Int × Int × ByteArray × Bool × Bool × Bool × Unit → Option (Bool × Unit):=fun (x0,x1,x2,x3,x4,x5,x6,x7,x8,x9,x10,x11,x12,x13,x14,x15,x16,x17,x18,x19,x20,x21,_) =>
 bif x10 then some (false,()) else Option.bind (PF117 (x4,x5,x6,x7,x11,x12,x13,x14,())) fun r => bif decide (r.1 < ofNat 0) then some (true,()) else bif r.1 == ofNat 0 then bif !x9 then some (x19,()) else some (false,()) else some (false,())
theorem PF222_ok:F222 = PF222:=by
 funext p
 obtain ⟨x0,x1,x2,x3,x4,x5,x6,x7,x8,x9,x10,x11,x12,x13,x14,x15,x16,x17,x18,x19,x20,x21,⟨⟩⟩:=p
 unfold PF222
 rw [← PF117_ok]
 kernel_rfl
def PF223:Int × Int × Int × ByteArray × Int × Int × Int × ByteArray × Bool × Bool × Bool × Int × Int × Int × ByteArray × Int × Int × Int × ByteArray × Bool × Bool × Bool × Unit → Option (Bool × Unit):=fun (x0,x1,x2,x3,x4,x5,x6,x7,x8,x9,x10,x11,x12,x13,x14,x15,x16,x17,x18,x19,x20,x21,_) =>
 bif x10 then bif x10 then some (!x21,()) else some (false,()) else bif x21 then bif x10 then some (!x21,()) else some (false,()) else Option.bind (PF117 (x4,x5,x6,x7,x15,x16,x17,x18,())) fun r => bif decide (r.1 > ofNat 0) then some (true,()) else bif r.1 == ofNat 0 then bif x9 then some (!x20,()) else some (false,()) else some (false,())
theorem PF223_ok:F223 = PF223:=by
 funext p
 obtain ⟨x0,x1,x2,x3,x4,x5,x6,x7,x8,x9,x10,x11,x12,x13,x14,x15,x16,x17,x18,x19,x20,x21,⟨⟩⟩:=p
 unfold PF223
 rw [← PF117_ok]
 kernel_rfl
def PB179_0:List R8 × Int × Int × List R8 × Int × Int × Int × ByteArray × Int × Int × Int × ByteArray × Bool × Bool × Bool × Unit → Option ((List R8 × Int × Int × List R8 × Int × Int × Int × ByteArray × Int × Int × Int × ByteArray × Bool × Bool × Bool × Unit) ⊕ List R8 × Int × Int × List R8 × Int × Int × Int × ByteArray × Int × Int × Int × ByteArray × Bool × Bool × Bool × Unit):=fun (x0,x1,x2,x3,x4,x5,x6,x7,x8,x9,x10,x11,x12,x13,x14,_) =>
 bif decide (x2 > ofNat 0) then bif decide (ofNat 0 ≤ wrap .i64 (x2 - ofNat 1)) then Option.bind x3[toNat (wrap .i64 (x2 - ofNat 1))]? fun y => Option.bind (PF221 (x4,x5,x6,x7,x8,x9,x10,x11,x12,x13,x14,y.1,y.2.1,y.2.2.1,y.2.2.2.1,y.2.2.2.2.1,y.2.2.2.2.2.1,y.2.2.2.2.2.2.1,y.2.2.2.2.2.2.2.1,y.2.2.2.2.2.2.2.2.1,y.2.2.2.2.2.2.2.2.2.1,y.2.2.2.2.2.2.2.2.2.2.1,())) fun r => bif r.1 then some (inl (x0,x1,wrap .i64 (x2 - ofNat 1),x3,x4,x5,x6,x7,x8,x9,x10,x11,x12,x13,x14,())) else some (inr (x0,x1,x2,x3,x4,x5,x6,x7,x8,x9,x10,x11,x12,x13,x14,())) else none else some (inr (x0,x1,x2,x3,x4,x5,x6,x7,x8,x9,x10,x11,x12,x13,x14,()))
theorem PB179_0_ok:B179_0 = PB179_0:=by
 funext p
 obtain ⟨x0,x1,x2,x3,x4,x5,x6,x7,x8,x9,x10,x11,x12,x13,x14,⟨⟩⟩:=p
 unfold PB179_0
 rw [← PF221_ok]
 kernel_rfl
def PB179_1:List R8 × Int × List R8 × Unit → Option ((List R8 × Int × List R8 × Unit) ⊕ List R8 × Unit):=fun (x0,x1,x2,_) =>
 bif decide (x1 < ofNat (length x0)) then bif decide (ofNat 0 ≤ x1) then Option.bind x0[toNat x1]? fun y => Option.bind (PF220 (y.1,y.2.1,y.2.2.1,y.2.2.2.1,y.2.2.2.2.1,y.2.2.2.2.2.1,y.2.2.2.2.2.2.1,y.2.2.2.2.2.2.2.1,y.2.2.2.2.2.2.2.2.1,y.2.2.2.2.2.2.2.2.2.1,y.2.2.2.2.2.2.2.2.2.2.1,())) fun r => bif r.1 then some (inl (x0,wrap .i64 (x1 + ofNat 1),x2,())) else bif y.2.2.2.2.2.2.2.2.2.2.1 then Option.bind (loop PB179_0 (x0,x1,ofNat (length x2),x2,y.1,y.2.1,y.2.2.1,y.2.2.2.1,ofNat 0,ofNat 0,ofNat 0,(lit []),y.2.2.2.2.2.2.2.2.1,false,y.2.2.2.2.2.2.2.2.2.2.1,())) fun r => bif decide (ofNat 0 ≤ r.2.2.1) && decide (r.2.2.1 ≤ ofNat (length r.2.2.2.1)) then bif decide (0 + length (List.drop 0 (List.take (toNat r.2.2.1) r.2.2.2.1)) ≤ 1599289640401) then bif decide (length ([] ++ List.drop 0 (List.take (toNat r.2.2.1) r.2.2.2.1)) + length [(r.2.2.2.2.1,r.2.2.2.2.2.1,r.2.2.2.2.2.2.1,r.2.2.2.2.2.2.2.1,r.2.2.2.2.2.2.2.2.1,r.2.2.2.2.2.2.2.2.2.1,r.2.2.2.2.2.2.2.2.2.2.1,r.2.2.2.2.2.2.2.2.2.2.2.1,r.2.2.2.2.2.2.2.2.2.2.2.2.1,r.2.2.2.2.2.2.2.2.2.2.2.2.2.1,r.2.2.2.2.2.2.2.2.2.2.2.2.2.2.1,())] ≤ 1599289640401) then bif decide (ofNat 0 ≤ r.2.2.1) && (decide (r.2.2.1 ≤ ofNat (length r.2.2.2.1)) && decide (ofNat (length r.2.2.2.1) ≤ ofNat (length r.2.2.2.1))) then bif decide (length ([] ++ List.drop 0 (List.take (toNat r.2.2.1) r.2.2.2.1) ++ [(r.2.2.2.2.1,r.2.2.2.2.2.1,r.2.2.2.2.2.2.1,r.2.2.2.2.2.2.2.1,r.2.2.2.2.2.2.2.2.1,r.2.2.2.2.2.2.2.2.2.1,r.2.2.2.2.2.2.2.2.2.2.1,r.2.2.2.2.2.2.2.2.2.2.2.1,r.2.2.2.2.2.2.2.2.2.2.2.2.1,r.2.2.2.2.2.2.2.2.2.2.2.2.2.1,r.2.2.2.2.2.2.2.2.2.2.2.2.2.2.1,())]) + length (List.drop (toNat r.2.2.1) (List.take (toNat (ofNat (length r.2.2.2.1))) r.2.2.2.1)) ≤ 1599289640401) then some (inl (r.1,wrap .i64 (r.2.1 + ofNat 1),[] ++ List.drop 0 (List.take (toNat r.2.2.1) r.2.2.2.1) ++ [(r.2.2.2.2.1,r.2.2.2.2.2.1,r.2.2.2.2.2.2.1,r.2.2.2.2.2.2.2.1,r.2.2.2.2.2.2.2.2.1,r.2.2.2.2.2.2.2.2.2.1,r.2.2.2.2.2.2.2.2.2.2.1,r.2.2.2.2.2.2.2.2.2.2.2.1,r.2.2.2.2.2.2.2.2.2.2.2.2.1,r.2.2.2.2.2.2.2.2.2.2.2.2.2.1,r.2.2.2.2.2.2.2.2.2.2.2.2.2.2.1,())] ++ List.drop (toNat r.2.2.1) (List.take (toNat (ofNat (length r.2.2.2.1))) r.2.2.2.1),())) else none else none else none else none else none else Option.bind (loop PB179_0 (x0,x1,ofNat (length x2),x2,y.1,y.2.1,y.2.2.1,y.2.2.2.1,y.2.2.2.2.1,y.2.2.2.2.2.1,y.2.2.2.2.2.2.1,y.2.2.2.2.2.2.2.1,y.2.2.2.2.2.2.2.2.1,y.2.2.2.2.2.2.2.2.2.1,y.2.2.2.2.2.2.2.2.2.2.1,())) fun r => bif decide (ofNat 0 ≤ r.2.2.1) && decide (r.2.2.1 ≤ ofNat (length r.2.2.2.1)) then bif decide (0 + length (List.drop 0 (List.take (toNat r.2.2.1) r.2.2.2.1)) ≤ 1599289640401) then bif decide (length ([] ++ List.drop 0 (List.take (toNat r.2.2.1) r.2.2.2.1)) + length [(r.2.2.2.2.1,r.2.2.2.2.2.1,r.2.2.2.2.2.2.1,r.2.2.2.2.2.2.2.1,r.2.2.2.2.2.2.2.2.1,r.2.2.2.2.2.2.2.2.2.1,r.2.2.2.2.2.2.2.2.2.2.1,r.2.2.2.2.2.2.2.2.2.2.2.1,r.2.2.2.2.2.2.2.2.2.2.2.2.1,r.2.2.2.2.2.2.2.2.2.2.2.2.2.1,r.2.2.2.2.2.2.2.2.2.2.2.2.2.2.1,())] ≤ 1599289640401) then bif decide (ofNat 0 ≤ r.2.2.1) && (decide (r.2.2.1 ≤ ofNat (length r.2.2.2.1)) && decide (ofNat (length r.2.2.2.1) ≤ ofNat (length r.2.2.2.1))) then bif decide (length ([] ++ List.drop 0 (List.take (toNat r.2.2.1) r.2.2.2.1) ++ [(r.2.2.2.2.1,r.2.2.2.2.2.1,r.2.2.2.2.2.2.1,r.2.2.2.2.2.2.2.1,r.2.2.2.2.2.2.2.2.1,r.2.2.2.2.2.2.2.2.2.1,r.2.2.2.2.2.2.2.2.2.2.1,r.2.2.2.2.2.2.2.2.2.2.2.1,r.2.2.2.2.2.2.2.2.2.2.2.2.1,r.2.2.2.2.2.2.2.2.2.2.2.2.2.1,r.2.2.2.2.2.2.2.2.2.2.2.2.2.2.1,())]) + length (List.drop (toNat r.2.2.1) (List.take (toNat (ofNat (length r.2.2.2.1))) r.2.2.2.1)) ≤ 1599289640401) then some (inl (r.1,wrap .i64 (r.2.1 + ofNat 1),[] ++ List.drop 0 (List.take (toNat r.2.2.1) r.2.2.2.1) ++ [(r.2.2.2.2.1,r.2.2.2.2.2.1,r.2.2.2.2.2.2.1,r.2.2.2.2.2.2.2.1,r.2.2.2.2.2.2.2.2.1,r.2.2.2.2.2.2.2.2.2.1,r.2.2.2.2.2.2.2.2.2.2.1,r.2.2.2.2.2.2.2.2.2.2.2.1,r.2.2.2.2.2.2.2.2.2.2.2.2.1,r.2.2.2.2.2.2.2.2.2.2.2.2.2.1,r.2.2.2.2.2.2.2.2.2.2.2.2.2.2.1,())] ++ List.drop (toNat r.2.2.1) (List.take (toNat (ofNat (length r.2.2.2.1))) r.2.2.2.1),())) else none else none else none else none else none else none else some (inr (x2,()))
theorem PB179_1_ok:B179_1 = PB179_1:=by
 funext p
 obtain ⟨x0,x1,x2,⟨⟩⟩:=p
 unfold PB179_1
 rw [← PB179_0_ok,← PF220_ok]
 kernel_rfl
def PB179_2:Int × List R8 × List R8 × Unit → Option ((Int × List R8 × List R8 × Unit) ⊕ List R8 × Unit):=fun (x0,x1,x2,_) =>
 bif decide (x0 < ofNat (length x1)) then bif decide (wrap .i64 (ofNat (length x2) - ofNat 1) < ofNat 0) then bif decide (ofNat 0 ≤ x0) then Option.bind x1[toNat x0]? fun y => bif decide (length x2 + length [(y.1,y.2.1,y.2.2.1,y.2.2.2.1,y.2.2.2.2.1,y.2.2.2.2.2.1,y.2.2.2.2.2.2.1,y.2.2.2.2.2.2.2.1,y.2.2.2.2.2.2.2.2.1,y.2.2.2.2.2.2.2.2.2.1,y.2.2.2.2.2.2.2.2.2.2.1,())] ≤ 1599289640401) then some (inl (wrap .i64 (x0 + ofNat 1),x1,x2 ++ [(y.1,y.2.1,y.2.2.1,y.2.2.2.1,y.2.2.2.2.1,y.2.2.2.2.2.1,y.2.2.2.2.2.2.1,y.2.2.2.2.2.2.2.1,y.2.2.2.2.2.2.2.2.1,y.2.2.2.2.2.2.2.2.2.1,y.2.2.2.2.2.2.2.2.2.2.1,())],())) else none else none else bif decide (ofNat 0 ≤ wrap .i64 (ofNat (length x2) - ofNat 1)) && decide (wrap .i64 (ofNat (length x2) - ofNat 1) < ofNat (length x2)) then Option.bind x2[toNat (wrap .i64 (ofNat (length x2) - ofNat 1))]? fun y => bif decide (ofNat 0 ≤ x0) then Option.bind x1[toNat x0]? fun y_1 => Option.bind (PF222 (y.1,y.2.1,y.2.2.1,y.2.2.2.1,y.2.2.2.2.1,y.2.2.2.2.2.1,y.2.2.2.2.2.2.1,y.2.2.2.2.2.2.2.1,y.2.2.2.2.2.2.2.2.1,y.2.2.2.2.2.2.2.2.2.1,y.2.2.2.2.2.2.2.2.2.2.1,y_1.1,y_1.2.1,y_1.2.2.1,y_1.2.2.2.1,y_1.2.2.2.2.1,y_1.2.2.2.2.2.1,y_1.2.2.2.2.2.2.1,y_1.2.2.2.2.2.2.2.1,y_1.2.2.2.2.2.2.2.2.1,y_1.2.2.2.2.2.2.2.2.2.1,y_1.2.2.2.2.2.2.2.2.2.2.1,())) fun r => bif r.1 then bif decide (ofNat 0 ≤ x0) then Option.bind x1[toNat x0]? fun y => bif decide (length x2 + length [(y.1,y.2.1,y.2.2.1,y.2.2.2.1,y.2.2.2.2.1,y.2.2.2.2.2.1,y.2.2.2.2.2.2.1,y.2.2.2.2.2.2.2.1,y.2.2.2.2.2.2.2.2.1,y.2.2.2.2.2.2.2.2.2.1,y.2.2.2.2.2.2.2.2.2.2.1,())] ≤ 1599289640401) then some (inl (wrap .i64 (x0 + ofNat 1),x1,x2 ++ [(y.1,y.2.1,y.2.2.1,y.2.2.2.1,y.2.2.2.2.1,y.2.2.2.2.2.1,y.2.2.2.2.2.2.1,y.2.2.2.2.2.2.2.1,y.2.2.2.2.2.2.2.2.1,y.2.2.2.2.2.2.2.2.2.1,y.2.2.2.2.2.2.2.2.2.2.1,())],())) else none else none else bif decide (ofNat 0 ≤ x0) then Option.bind x1[toNat x0]? fun y => bif decide (ofNat 0 ≤ wrap .i64 (ofNat (length x2) - ofNat 1)) && decide (wrap .i64 (ofNat (length x2) - ofNat 1) < ofNat (length x2)) then Option.bind x2[toNat (wrap .i64 (ofNat (length x2) - ofNat 1))]? fun y_2 => Option.bind (PF223 (y.1,y.2.1,y.2.2.1,y.2.2.2.1,y.2.2.2.2.1,y.2.2.2.2.2.1,y.2.2.2.2.2.2.1,y.2.2.2.2.2.2.2.1,y.2.2.2.2.2.2.2.2.1,y.2.2.2.2.2.2.2.2.2.1,y.2.2.2.2.2.2.2.2.2.2.1,y_2.1,y_2.2.1,y_2.2.2.1,y_2.2.2.2.1,y_2.2.2.2.2.1,y_2.2.2.2.2.2.1,y_2.2.2.2.2.2.2.1,y_2.2.2.2.2.2.2.2.1,y_2.2.2.2.2.2.2.2.2.1,y_2.2.2.2.2.2.2.2.2.2.1,y_2.2.2.2.2.2.2.2.2.2.2.1,())) fun r => bif r.1 then bif decide (ofNat 0 ≤ x0) then Option.bind x1[toNat x0]? fun y => bif decide (ofNat 0 ≤ x0) then Option.bind x1[toNat x0]? fun y_3 => bif decide (ofNat 0 ≤ x0) then Option.bind x1[toNat x0]? fun y_4 => bif decide (ofNat 0 ≤ wrap .i64 (ofNat (length x2) - ofNat 1)) && decide (wrap .i64 (ofNat (length x2) - ofNat 1) < ofNat (length x2)) then Option.bind x2[toNat (wrap .i64 (ofNat (length x2) - ofNat 1))]? fun y_5 => bif decide (ofNat 0 ≤ wrap .i64 (ofNat (length x2) - ofNat 1)) && decide (wrap .i64 (ofNat (length x2) - ofNat 1) < ofNat (length (List.set x2 (toNat (wrap .i64 (ofNat (length x2) - ofNat 1))) (y_5.1,y_5.2.1,y_5.2.2.1,y_5.2.2.2.1,y.2.2.2.2.1,y.2.2.2.2.2.1,y.2.2.2.2.2.2.1,y.2.2.2.2.2.2.2.1,y_5.2.2.2.2.2.2.2.2.1,y_5.2.2.2.2.2.2.2.2.2.1,y_5.2.2.2.2.2.2.2.2.2.2.1,())))) then Option.bind (List.set x2 (toNat (wrap .i64 (ofNat (length x2) - ofNat 1))) (y_5.1,y_5.2.1,y_5.2.2.1,y_5.2.2.2.1,y.2.2.2.2.1,y.2.2.2.2.2.1,y.2.2.2.2.2.2.1,y.2.2.2.2.2.2.2.1,y_5.2.2.2.2.2.2.2.2.1,y_5.2.2.2.2.2.2.2.2.2.1,y_5.2.2.2.2.2.2.2.2.2.2.1,()))[toNat (wrap .i64 (ofNat (length x2) - ofNat 1))]? fun y_6 => bif decide (ofNat 0 ≤ wrap .i64 (ofNat (length x2) - ofNat 1)) && decide (wrap .i64 (ofNat (length x2) - ofNat 1) < ofNat (length (List.set (List.set x2 (toNat (wrap .i64 (ofNat (length x2) - ofNat 1))) (y_5.1,y_5.2.1,y_5.2.2.1,y_5.2.2.2.1,y.2.2.2.2.1,y.2.2.2.2.2.1,y.2.2.2.2.2.2.1,y.2.2.2.2.2.2.2.1,y_5.2.2.2.2.2.2.2.2.1,y_5.2.2.2.2.2.2.2.2.2.1,y_5.2.2.2.2.2.2.2.2.2.2.1,())) (toNat (wrap .i64 (ofNat (length x2) - ofNat 1))) (y_6.1,y_6.2.1,y_6.2.2.1,y_6.2.2.2.1,y_6.2.2.2.2.1,y_6.2.2.2.2.2.1,y_6.2.2.2.2.2.2.1,y_6.2.2.2.2.2.2.2.1,y_6.2.2.2.2.2.2.2.2.1,y_3.2.2.2.2.2.2.2.2.2.1,y_6.2.2.2.2.2.2.2.2.2.2.1,())))) then Option.bind (List.set (List.set x2 (toNat (wrap .i64 (ofNat (length x2) - ofNat 1))) (y_5.1,y_5.2.1,y_5.2.2.1,y_5.2.2.2.1,y.2.2.2.2.1,y.2.2.2.2.2.1,y.2.2.2.2.2.2.1,y.2.2.2.2.2.2.2.1,y_5.2.2.2.2.2.2.2.2.1,y_5.2.2.2.2.2.2.2.2.2.1,y_5.2.2.2.2.2.2.2.2.2.2.1,())) (toNat (wrap .i64 (ofNat (length x2) - ofNat 1))) (y_6.1,y_6.2.1,y_6.2.2.1,y_6.2.2.2.1,y_6.2.2.2.2.1,y_6.2.2.2.2.2.1,y_6.2.2.2.2.2.2.1,y_6.2.2.2.2.2.2.2.1,y_6.2.2.2.2.2.2.2.2.1,y_3.2.2.2.2.2.2.2.2.2.1,y_6.2.2.2.2.2.2.2.2.2.2.1,()))[toNat (wrap .i64 (ofNat (length x2) - ofNat 1))]? fun y_7 => some (inl (wrap .i64 (x0 + ofNat 1),x1,List.set (List.set (List.set x2 (toNat (wrap .i64 (ofNat (length x2) - ofNat 1))) (y_5.1,y_5.2.1,y_5.2.2.1,y_5.2.2.2.1,y.2.2.2.2.1,y.2.2.2.2.2.1,y.2.2.2.2.2.2.1,y.2.2.2.2.2.2.2.1,y_5.2.2.2.2.2.2.2.2.1,y_5.2.2.2.2.2.2.2.2.2.1,y_5.2.2.2.2.2.2.2.2.2.2.1,())) (toNat (wrap .i64 (ofNat (length x2) - ofNat 1))) (y_6.1,y_6.2.1,y_6.2.2.1,y_6.2.2.2.1,y_6.2.2.2.2.1,y_6.2.2.2.2.2.1,y_6.2.2.2.2.2.2.1,y_6.2.2.2.2.2.2.2.1,y_6.2.2.2.2.2.2.2.2.1,y_3.2.2.2.2.2.2.2.2.2.1,y_6.2.2.2.2.2.2.2.2.2.2.1,())) (toNat (wrap .i64 (ofNat (length x2) - ofNat 1))) (y_7.1,y_7.2.1,y_7.2.2.1,y_7.2.2.2.1,y_7.2.2.2.2.1,y_7.2.2.2.2.2.1,y_7.2.2.2.2.2.2.1,y_7.2.2.2.2.2.2.2.1,y_7.2.2.2.2.2.2.2.2.1,y_7.2.2.2.2.2.2.2.2.2.1,y_4.2.2.2.2.2.2.2.2.2.2.1,()),())) else none else none else none else none else none else none else some (inl (wrap .i64 (x0 + ofNat 1),x1,x2,())) else none else none else none else none else some (inr (x2,()))
theorem PB179_2_ok:B179_2 = PB179_2:=by
 funext p
 obtain ⟨x0,x1,x2,⟨⟩⟩:=p
 unfold PB179_2
 rw [← PF222_ok,← PF223_ok]
 kernel_rfl
def PF179:List R8 × Unit → Option (List R8 × Unit):=fun (x0,_) =>
 Option.bind (loop PB179_1 (x0,ofNat 0,[],())) fun r => Option.bind (loop PB179_2 (ofNat 0,r.1,[],())) fun r => some (r.1,())
theorem PF179_ok:F179 = PF179:=by
 funext p
 obtain ⟨x0,⟨⟩⟩:=p
 unfold PF179
 rw [← PB179_1_ok,← PB179_2_ok]
 kernel_rfl
def PF217:Unit → Option (Int × Int × Int × ByteArray × Unit):=fun (_) =>
 some (ofNat 0,ofNat 0,ofNat 0,(lit [48]),())
theorem PF217_ok:F217 = PF217:=by
 funext p
 unfold PF217
 kernel_rfl
def PB175_0:List R8 × Int × List R8 × Int × Int × Int × ByteArray × Int × Int × Int × ByteArray × Bool × Bool × Bool × Unit → Option ((List R8 × Int × List R8 × Int × Int × Int × ByteArray × Int × Int × Int × ByteArray × Bool × Bool × Bool × Unit) ⊕ (List R8 × Unit) ⊕ (List R8 × Int × Int × Int × ByteArray × Int × Int × Int × ByteArray × Bool × Bool × Bool × Unit)):=fun (x0,x1,x2,x3,x4,x5,x6,x7,x8,x9,x10,x11,x12,x13,_) =>
 bif decide (x1 < ofNat (length x0)) then bif decide (ofNat 0 ≤ x1) then Option.bind x0[toNat x1]? fun y => bif decide (ofNat 0 ≤ x1) then Option.bind x0[toNat x1]? fun y_1 => bif decide (length x2 + length [(x3,x4,x5,x6,y.1,y.2.1,y.2.2.1,y.2.2.2.1,x11,y_1.2.2.2.2.2.2.2.2.1,false,())] ≤ 1599289640401) then bif decide (ofNat 0 ≤ x1) then Option.bind x0[toNat x1]? fun y_2 => bif y_2.2.2.2.2.2.2.2.2.2.2.1 then Option.bind (PF179 (x2 ++ [(x3,x4,x5,x6,y.1,y.2.1,y.2.2.1,y.2.2.2.1,x11,y_1.2.2.2.2.2.2.2.2.1,false,())],())) fun r => some (inr (inl (r.1,()))) else bif decide (ofNat 0 ≤ x1) then Option.bind x0[toNat x1]? fun y_3 => bif decide (ofNat 0 ≤ x1) then Option.bind x0[toNat x1]? fun y_4 => some (inl (x0,wrap .i64 (x1 + ofNat 1),x2 ++ [(x3,x4,x5,x6,y.1,y.2.1,y.2.2.1,y.2.2.2.1,x11,y_1.2.2.2.2.2.2.2.2.1,false,())],y_3.2.2.2.2.1,y_3.2.2.2.2.2.1,y_3.2.2.2.2.2.2.1,y_3.2.2.2.2.2.2.2.1,x7,x8,x9,x10,y_4.2.2.2.2.2.2.2.2.2.1,x12,x13,())) else none else none else none else none else none else none else some (inr (inr (x2,x3,x4,x5,x6,x7,x8,x9,x10,x11,x12,x13,())))
theorem PB175_0_ok:B175_0 = PB175_0:=by
 funext p
 obtain ⟨x0,x1,x2,x3,x4,x5,x6,x7,x8,x9,x10,x11,x12,x13,⟨⟩⟩:=p
 unfold PB175_0
 rw [← PF179_ok]
 kernel_rfl
def PF175:List R8 × Unit → Option (List R8 × Unit):=fun (x0,_) =>
 Option.bind (PF217 ()) fun r => Option.bind (loop PB175_0 (x0,ofNat 0,[],r.1,r.2.1,r.2.2.1,r.2.2.2.1,ofNat 0,ofNat 0,ofNat 0,(lit []),false,false,true,())) fun r => elim (fun p => some (p.1,())) (fun p => bif decide (length p.1 + length [(p.2.1,p.2.2.1,p.2.2.2.1,p.2.2.2.2.1,p.2.2.2.2.2.1,p.2.2.2.2.2.2.1,p.2.2.2.2.2.2.2.1,p.2.2.2.2.2.2.2.2.1,p.2.2.2.2.2.2.2.2.2.1,p.2.2.2.2.2.2.2.2.2.2.1,p.2.2.2.2.2.2.2.2.2.2.2.1,())] ≤ 1599289640401) then Option.bind (PF179 (p.1 ++ [(p.2.1,p.2.2.1,p.2.2.2.1,p.2.2.2.2.1,p.2.2.2.2.2.1,p.2.2.2.2.2.2.1,p.2.2.2.2.2.2.2.1,p.2.2.2.2.2.2.2.2.1,p.2.2.2.2.2.2.2.2.2.1,p.2.2.2.2.2.2.2.2.2.2.1,p.2.2.2.2.2.2.2.2.2.2.2.1,())],())) fun r => some (r.1,()) else none) r
theorem PF175_ok:F175 = PF175:=by
 funext p
 obtain ⟨x0,⟨⟩⟩:=p
 unfold PF175
 rw [← PB175_0_ok,← PF179_ok,← PF217_ok]
 kernel_rfl
def PB176_0:ByteArray × Int × Unit → Option ((ByteArray × Int × Unit) ⊕ ByteArray × Int × Unit):=fun (x0,x1,_) =>
 bif decide (x1 < ofNat (size x0)) then bif decide (ofNat 0 ≤ x1) && decide (x1 < ofNat (size x0)) then bif bt x0 x1 == ofNat 32 then some (inl (x0,wrap .i64 (x1 + ofNat 1),())) else some (inr (x0,x1,())) else none else some (inr (x0,x1,()))
theorem PB176_0_ok:B176_0 = PB176_0:=by
 funext p
 obtain ⟨x0,x1,⟨⟩⟩:=p
 unfold PB176_0
 kernel_rfl
def PF176:ByteArray × Int × Unit → Option (ByteArray × Int × Unit):=fun (x0,x1,_) =>
 Option.bind (loop PB176_0 (x0,x1,())) fun r => some (r.1,r.2.1,())
theorem PF176_ok:F176 = PF176:=by
 funext p
 obtain ⟨x0,x1,⟨⟩⟩:=p
 unfold PF176
 rw [← PB176_0_ok]
 kernel_rfl
def PB177_0:Int × ByteArray × Int × Unit → Option ((Int × ByteArray × Int × Unit) ⊕ Int × ByteArray × Int × Unit):=fun (x0,x1,x2,_) =>
 bif decide (x2 < ofNat (size x1)) then bif decide (ofNat 0 ≤ x2) && decide (x2 < ofNat (size x1)) then bif !bt x1 x2 == ofNat 32 then bif decide (ofNat 0 ≤ x2) && decide (x2 < ofNat (size x1)) then bif !bt x1 x2 == ofNat 124 then some (inl (x0,x1,wrap .i64 (x2 + ofNat 1),())) else some (inr (x0,x1,x2,())) else none else some (inr (x0,x1,x2,())) else none else some (inr (x0,x1,x2,()))
theorem PB177_0_ok:B177_0 = PB177_0:=by
 funext p
 obtain ⟨x0,x1,x2,⟨⟩⟩:=p
 unfold PB177_0
 kernel_rfl
def PF177:ByteArray × Int × Unit → Option (ByteArray × Int × ByteArray × Int × Unit):=fun (x0,x1,_) =>
 Option.bind (loop PB177_0 (x1,x0,x1,())) fun r => bif decide (ofNat 0 ≤ r.1) && (decide (r.1 ≤ r.2.2.1) && decide (r.2.2.1 ≤ ofNat (size r.2.1))) then Option.bind (PF176 (r.2.1,r.2.2.1,())) fun r_1 => some (ByteArray.extract r.2.1 (toNat r.1) (toNat r.2.2.1),r.1,r_1.1,r_1.2.1,()) else none
theorem PF177_ok:F177 = PF177:=by
 funext p
 obtain ⟨x0,x1,⟨⟩⟩:=p
 unfold PF177
 rw [← PB177_0_ok,← PF176_ok]
 kernel_rfl
def PB256_0:Int × Int × Int × Int × ByteArray × Int × Int × Int × ByteArray × Bool × Bool × Bool × Int × Int × Int × ByteArray × Int × Int × Int × ByteArray × Bool × Bool × Bool × Int × Int × Int × Unit → Option ((Int × Int × Int × Int × ByteArray × Int × Int × Int × ByteArray × Bool × Bool × Bool × Int × Int × Int × ByteArray × Int × Int × Int × ByteArray × Bool × Bool × Bool × Int × Int × Int × Unit) ⊕ Int × Int × Int × Int × ByteArray × Int × Int × Int × ByteArray × Bool × Bool × Bool × Int × Int × Int × ByteArray × Int × Int × Int × ByteArray × Bool × Bool × Bool × Int × Int × Int × Unit):=fun (x0,x1,x2,x3,x4,x5,x6,x7,x8,x9,x10,x11,x12,x13,x14,x15,x16,x17,x18,x19,x20,x21,x22,x23,x24,x25,_) =>
 bif decide (x0 ≥ ofNat 0) then bif x0 == ofNat 0 then bif x23 == ofNat 999999 then some (inl (wrap .i64 (x0 - ofNat 1),x1,x2,x3,x4,x5,x6,x7,x8,x9,x10,x11,x12,x13,x14,x15,x16,x17,x18,x19,x20,x21,x22,x23,x24,x25,())) else some (inr (x0,x1,x2,x3,x4,x5,x6,x7,x8,x9,x10,x11,x12,x13,x14,x15,x16,x17,x18,x19,x20,x21,x22,x23,x24,x25,())) else bif x0 == ofNat 1 then bif x24 == ofNat 999999 then some (inl (wrap .i64 (x0 - ofNat 1),x1,x2,x3,x4,x5,x6,x7,x8,x9,x10,x11,x12,x13,x14,x15,x16,x17,x18,x19,x20,x21,x22,x23,x24,x25,())) else some (inr (x0,x1,x2,x3,x4,x5,x6,x7,x8,x9,x10,x11,x12,x13,x14,x15,x16,x17,x18,x19,x20,x21,x22,x23,x24,x25,())) else bif x0 == ofNat 2 then bif x25 == ofNat 999999 then some (inl (wrap .i64 (x0 - ofNat 1),x1,x2,x3,x4,x5,x6,x7,x8,x9,x10,x11,x12,x13,x14,x15,x16,x17,x18,x19,x20,x21,x22,x23,x24,x25,())) else some (inr (x0,x1,x2,x3,x4,x5,x6,x7,x8,x9,x10,x11,x12,x13,x14,x15,x16,x17,x18,x19,x20,x21,x22,x23,x24,x25,())) else none else some (inr (x0,x1,x2,x3,x4,x5,x6,x7,x8,x9,x10,x11,x12,x13,x14,x15,x16,x17,x18,x19,x20,x21,x22,x23,x24,x25,()))
theorem PB256_0_ok:B256_0 = PB256_0:=by
 funext p
 obtain ⟨x0,x1,x2,x3,x4,x5,x6,x7,x8,x9,x10,x11,x12,x13,x14,x15,x16,x17,x18,x19,x20,x21,x22,x23,x24,x25,⟨⟩⟩:=p
 unfold PB256_0
 kernel_rfl
def PB256_1:Int × Int × Int × Int × Int × ByteArray × Int × Int × Int × ByteArray × Bool × Bool × Bool × Int × Int × Int × ByteArray × Int × Int × Int × ByteArray × Bool × Bool × Bool × Int × Int × Int × Unit → Option ((Int × Int × Int × Int × Int × ByteArray × Int × Int × Int × ByteArray × Bool × Bool × Bool × Int × Int × Int × ByteArray × Int × Int × Int × ByteArray × Bool × Bool × Bool × Int × Int × Int × Unit) ⊕ Int × Int × Int × ByteArray × Int × Int × Int × ByteArray × Bool × Bool × Bool × Int × Int × Int × ByteArray × Int × Int × Int × ByteArray × Bool × Bool × Bool × Int × Int × Int × Unit):=fun (x0,x1,x2,x3,x4,x5,x6,x7,x8,x9,x10,x11,x12,x13,x14,x15,x16,x17,x18,x19,x20,x21,x22,x23,x24,x25,x26,_) =>
 bif decide (x1 < ofNat 3) then bif x1 == x0 then bif x1 == ofNat 0 then bif x1 == ofNat 0 then some (inl (x0,wrap .i64 (x1 + ofNat 1),x2,x3,x4,x5,x6,x7,x8,x9,x10,x11,x12,x13,x14,x15,x16,x17,x18,x19,x20,x21,x22,x23,wrap .i64 (x24 + ofNat 1),x25,x26,())) else bif x1 == ofNat 1 then some (inl (x0,wrap .i64 (x1 + ofNat 1),x2,x3,x4,x5,x6,x7,x8,x9,x10,x11,x12,x13,x14,x15,x16,x17,x18,x19,x20,x21,x22,x23,x24,wrap .i64 (x24 + ofNat 1),x26,())) else bif x1 == ofNat 2 then some (inl (x0,wrap .i64 (x1 + ofNat 1),x2,x3,x4,x5,x6,x7,x8,x9,x10,x11,x12,x13,x14,x15,x16,x17,x18,x19,x20,x21,x22,x23,x24,x25,wrap .i64 (x24 + ofNat 1),())) else none else bif x1 == ofNat 1 then bif x1 == ofNat 0 then some (inl (x0,wrap .i64 (x1 + ofNat 1),x2,x3,x4,x5,x6,x7,x8,x9,x10,x11,x12,x13,x14,x15,x16,x17,x18,x19,x20,x21,x22,x23,wrap .i64 (x25 + ofNat 1),x25,x26,())) else bif x1 == ofNat 1 then some (inl (x0,wrap .i64 (x1 + ofNat 1),x2,x3,x4,x5,x6,x7,x8,x9,x10,x11,x12,x13,x14,x15,x16,x17,x18,x19,x20,x21,x22,x23,x24,wrap .i64 (x25 + ofNat 1),x26,())) else bif x1 == ofNat 2 then some (inl (x0,wrap .i64 (x1 + ofNat 1),x2,x3,x4,x5,x6,x7,x8,x9,x10,x11,x12,x13,x14,x15,x16,x17,x18,x19,x20,x21,x22,x23,x24,x25,wrap .i64 (x25 + ofNat 1),())) else none else bif x1 == ofNat 2 then bif x1 == ofNat 0 then some (inl (x0,wrap .i64 (x1 + ofNat 1),x2,x3,x4,x5,x6,x7,x8,x9,x10,x11,x12,x13,x14,x15,x16,x17,x18,x19,x20,x21,x22,x23,wrap .i64 (x26 + ofNat 1),x25,x26,())) else bif x1 == ofNat 1 then some (inl (x0,wrap .i64 (x1 + ofNat 1),x2,x3,x4,x5,x6,x7,x8,x9,x10,x11,x12,x13,x14,x15,x16,x17,x18,x19,x20,x21,x22,x23,x24,wrap .i64 (x26 + ofNat 1),x26,())) else bif x1 == ofNat 2 then some (inl (x0,wrap .i64 (x1 + ofNat 1),x2,x3,x4,x5,x6,x7,x8,x9,x10,x11,x12,x13,x14,x15,x16,x17,x18,x19,x20,x21,x22,x23,x24,x25,wrap .i64 (x26 + ofNat 1),())) else none else none else bif decide (x1 > x0) then bif x1 == ofNat 0 then some (inl (x0,wrap .i64 (x1 + ofNat 1),x2,x3,x4,x5,x6,x7,x8,x9,x10,x11,x12,x13,x14,x15,x16,x17,x18,x19,x20,x21,x22,x23,ofNat 0,x25,x26,())) else bif x1 == ofNat 1 then some (inl (x0,wrap .i64 (x1 + ofNat 1),x2,x3,x4,x5,x6,x7,x8,x9,x10,x11,x12,x13,x14,x15,x16,x17,x18,x19,x20,x21,x22,x23,x24,ofNat 0,x26,())) else bif x1 == ofNat 2 then some (inl (x0,wrap .i64 (x1 + ofNat 1),x2,x3,x4,x5,x6,x7,x8,x9,x10,x11,x12,x13,x14,x15,x16,x17,x18,x19,x20,x21,x22,x23,x24,x25,ofNat 0,())) else none else some (inl (x0,wrap .i64 (x1 + ofNat 1),x2,x3,x4,x5,x6,x7,x8,x9,x10,x11,x12,x13,x14,x15,x16,x17,x18,x19,x20,x21,x22,x23,x24,x25,x26,())) else some (inr (x2,x3,x4,x5,x6,x7,x8,x9,x10,x11,x12,x13,x14,x15,x16,x17,x18,x19,x20,x21,x22,x23,x24,x25,x26,()))
theorem PB256_1_ok:B256_1 = PB256_1:=by
 funext p
 obtain ⟨x0,x1,x2,x3,x4,x5,x6,x7,x8,x9,x10,x11,x12,x13,x14,x15,x16,x17,x18,x19,x20,x21,x22,x23,x24,x25,x26,⟨⟩⟩:=p
 unfold PB256_1
 kernel_rfl
def PF256:Int × Int × Int × ByteArray × Int × Unit → Option (Int × Int × Int × ByteArray × Int × Int × Int × ByteArray × Bool × Bool × Bool × Unit):=fun (x0,x1,x2,x3,x4,_) =>
 Option.bind (loop PB256_0 (x4,ofNat 0,ofNat 0,ofNat 0,(lit []),ofNat 0,ofNat 0,ofNat 0,(lit []),false,false,false,x0,x1,x2,x3,ofNat 0,ofNat 0,ofNat 0,(lit []),false,false,false,x0,x1,x2,())) fun r => bif decide (r.1 < ofNat 0) then some (r.2.2.2.2.2.2.2.2.2.2.2.2.1,r.2.2.2.2.2.2.2.2.2.2.2.2.2.1,r.2.2.2.2.2.2.2.2.2.2.2.2.2.2.1,r.2.2.2.2.2.2.2.2.2.2.2.2.2.2.2.1,r.2.2.2.2.2.2.2.2.2.2.2.2.2.2.2.2.1,r.2.2.2.2.2.2.2.2.2.2.2.2.2.2.2.2.2.1,r.2.2.2.2.2.2.2.2.2.2.2.2.2.2.2.2.2.2.1,r.2.2.2.2.2.2.2.2.2.2.2.2.2.2.2.2.2.2.2.1,r.2.2.2.2.2.2.2.2.2.2.2.2.2.2.2.2.2.2.2.2.1,r.2.2.2.2.2.2.2.2.2.2.2.2.2.2.2.2.2.2.2.2.2.1,true,()) else Option.bind (loop PB256_1 (r.1,ofNat 0,r.2.1,r.2.2.1,r.2.2.2.1,r.2.2.2.2.1,r.2.2.2.2.2.1,r.2.2.2.2.2.2.1,r.2.2.2.2.2.2.2.1,r.2.2.2.2.2.2.2.2.1,r.2.2.2.2.2.2.2.2.2.1,r.2.2.2.2.2.2.2.2.2.2.1,r.2.2.2.2.2.2.2.2.2.2.2.1,r.2.2.2.2.2.2.2.2.2.2.2.2.1,r.2.2.2.2.2.2.2.2.2.2.2.2.2.1,r.2.2.2.2.2.2.2.2.2.2.2.2.2.2.1,r.2.2.2.2.2.2.2.2.2.2.2.2.2.2.2.1,r.2.2.2.2.2.2.2.2.2.2.2.2.2.2.2.2.1,r.2.2.2.2.2.2.2.2.2.2.2.2.2.2.2.2.2.1,r.2.2.2.2.2.2.2.2.2.2.2.2.2.2.2.2.2.2.1,r.2.2.2.2.2.2.2.2.2.2.2.2.2.2.2.2.2.2.2.1,r.2.2.2.2.2.2.2.2.2.2.2.2.2.2.2.2.2.2.2.2.1,r.2.2.2.2.2.2.2.2.2.2.2.2.2.2.2.2.2.2.2.2.2.1,r.2.2.2.2.2.2.2.2.2.2.2.2.2.2.2.2.2.2.2.2.2.2.1,r.2.2.2.2.2.2.2.2.2.2.2.2.2.2.2.2.2.2.2.2.2.2.2.1,r.2.2.2.2.2.2.2.2.2.2.2.2.2.2.2.2.2.2.2.2.2.2.2.2.1,r.2.2.2.2.2.2.2.2.2.2.2.2.2.2.2.2.2.2.2.2.2.2.2.2.2.1,())) fun r => some (r.2.2.2.2.2.2.2.2.2.2.2.1,r.2.2.2.2.2.2.2.2.2.2.2.2.1,r.2.2.2.2.2.2.2.2.2.2.2.2.2.1,r.2.2.2.2.2.2.2.2.2.2.2.2.2.2.1,r.2.2.2.2.2.2.2.2.2.2.2.2.2.2.2.2.2.2.2.2.2.2.1,r.2.2.2.2.2.2.2.2.2.2.2.2.2.2.2.2.2.2.2.2.2.2.2.1,r.2.2.2.2.2.2.2.2.2.2.2.2.2.2.2.2.2.2.2.2.2.2.2.2.1,(lit [48]),r.2.2.2.2.2.2.2.2.2.2.2.2.2.2.2.2.2.2.2.1,r.2.2.2.2.2.2.2.2.2.2.2.2.2.2.2.2.2.2.2.2.1,r.2.2.2.2.2.2.2.2.2.2.2.2.2.2.2.2.2.2.2.2.2.1,())
theorem PF256_ok:F256 = PF256:=by
 funext p
 obtain ⟨x0,x1,x2,x3,x4,⟨⟩⟩:=p
 unfold PF256
 rw [← PB256_0_ok,← PB256_1_ok]
 kernel_rfl
def PB218_0:ByteArray × Int × Int × Int × Int × ByteArray × Int × Int × Int × ByteArray × Bool × Bool × Bool × Unit → Option ((ByteArray × Int × Int × Int × Int × ByteArray × Int × Int × Int × ByteArray × Bool × Bool × Bool × Unit) ⊕ ByteArray × Int × Int × Int × Int × ByteArray × Int × Int × Int × ByteArray × Bool × Bool × Bool × Unit):=fun (x0,x1,x2,x3,x4,x5,x6,x7,x8,x9,x10,x11,x12,_) =>
 bif decide (x1 < ofNat (size x0)) then bif decide (ofNat 0 ≤ x1) && decide (x1 < ofNat (size x0)) then bif !bt x0 x1 == ofNat 46 then some (inl (x0,wrap .i64 (x1 + ofNat 1),x2,x3,x4,x5,x6,x7,x8,x9,x10,x11,x12,())) else some (inr (x0,x1,x2,x3,x4,x5,x6,x7,x8,x9,x10,x11,x12,())) else none else some (inr (x0,x1,x2,x3,x4,x5,x6,x7,x8,x9,x10,x11,x12,()))
theorem PB218_0_ok:B218_0 = PB218_0:=by
 funext p
 obtain ⟨x0,x1,x2,x3,x4,x5,x6,x7,x8,x9,x10,x11,x12,⟨⟩⟩:=p
 unfold PB218_0
 kernel_rfl
def PF218:ByteArray × Unit → Option (Int × Int × Int × ByteArray × Int × Int × Int × ByteArray × Bool × Bool × Bool × Bool × Unit):=fun (x0,_) =>
 bif decide (ofNat (size x0) < ofNat 4) then some (ofNat 0,ofNat 0,ofNat 0,(lit []),ofNat 0,ofNat 0,ofNat 0,(lit []),false,false,false,false,()) else bif decide (ofNat 0 < ofNat (size x0)) then bif !bt x0 (ofNat 0) == ofNat 118 then some (ofNat 0,ofNat 0,ofNat 0,(lit []),ofNat 0,ofNat 0,ofNat 0,(lit []),false,false,false,false,()) else bif decide (ofNat 0 ≤ wrap .i64 (ofNat (size x0) - ofNat 2)) && (decide (wrap .i64 (ofNat (size x0) - ofNat 2) ≤ ofNat (size x0)) && decide (ofNat (size x0) ≤ ofNat (size x0))) then bif !bl (ByteArray.extract x0 (toNat (wrap .i64 (ofNat (size x0) - ofNat 2))) (toNat (ofNat (size x0)))) == [46,120] then some (ofNat 0,ofNat 0,ofNat 0,(lit []),ofNat 0,ofNat 0,ofNat 0,(lit []),false,false,false,false,()) else bif decide (ofNat 1 ≤ wrap .i64 (ofNat (size x0) - ofNat 2)) && decide (wrap .i64 (ofNat (size x0) - ofNat 2) ≤ ofNat (size x0)) then Option.bind (loop PB218_0 (ByteArray.extract x0 1 (toNat (wrap .i64 (ofNat (size x0) - ofNat 2))),ofNat 0,ofNat 0,ofNat 0,ofNat 0,(lit []),ofNat 0,ofNat 0,ofNat 0,(lit []),false,false,false,())) fun r => bif decide (ofNat 0 ≤ r.2.1) && decide (r.2.1 ≤ ofNat (size r.1)) then Option.bind (PF41 (ByteArray.extract r.1 0 (toNat r.2.1),())) fun r_1 => bif r.2.1 == ofNat (size r.1) then Option.bind (PF256 (r_1.1,ofNat 0,ofNat 0,(lit [48]),ofNat 0,())) fun r => bif r_1.2.1 then some (r.1,r.2.1,r.2.2.1,r.2.2.2.1,r.2.2.2.2.1,r.2.2.2.2.2.1,r.2.2.2.2.2.2.1,r.2.2.2.2.2.2.2.1,r.2.2.2.2.2.2.2.2.1,r.2.2.2.2.2.2.2.2.2.1,r.2.2.2.2.2.2.2.2.2.2.1,decide (r_1.1 ≤ ofNat 999999),()) else some (r.1,r.2.1,r.2.2.1,r.2.2.2.1,r.2.2.2.2.1,r.2.2.2.2.2.1,r.2.2.2.2.2.2.1,r.2.2.2.2.2.2.2.1,r.2.2.2.2.2.2.2.2.1,r.2.2.2.2.2.2.2.2.2.1,r.2.2.2.2.2.2.2.2.2.2.1,false,()) else bif decide (ofNat 0 ≤ wrap .i64 (r.2.1 + ofNat 1)) && (decide (wrap .i64 (r.2.1 + ofNat 1) ≤ ofNat (size r.1)) && decide (ofNat (size r.1) ≤ ofNat (size r.1))) then Option.bind (PF41 (ByteArray.extract r.1 (toNat (wrap .i64 (r.2.1 + ofNat 1))) (toNat (ofNat (size r.1))),())) fun r => Option.bind (PF256 (r_1.1,r.1,ofNat 0,(lit [48]),ofNat 1,())) fun r_2 => bif r_1.2.1 then bif r.2.1 then some (r_2.1,r_2.2.1,r_2.2.2.1,r_2.2.2.2.1,r_2.2.2.2.2.1,r_2.2.2.2.2.2.1,r_2.2.2.2.2.2.2.1,r_2.2.2.2.2.2.2.2.1,r_2.2.2.2.2.2.2.2.2.1,r_2.2.2.2.2.2.2.2.2.2.1,r_2.2.2.2.2.2.2.2.2.2.2.1,decide ((bif decide (r.1 > r_1.1) then r.1 else r_1.1) ≤ ofNat 999999),()) else some (r_2.1,r_2.2.1,r_2.2.2.1,r_2.2.2.2.1,r_2.2.2.2.2.1,r_2.2.2.2.2.2.1,r_2.2.2.2.2.2.2.1,r_2.2.2.2.2.2.2.2.1,r_2.2.2.2.2.2.2.2.2.1,r_2.2.2.2.2.2.2.2.2.2.1,r_2.2.2.2.2.2.2.2.2.2.2.1,false,()) else some (r_2.1,r_2.2.1,r_2.2.2.1,r_2.2.2.2.1,r_2.2.2.2.2.1,r_2.2.2.2.2.2.1,r_2.2.2.2.2.2.2.1,r_2.2.2.2.2.2.2.2.1,r_2.2.2.2.2.2.2.2.2.1,r_2.2.2.2.2.2.2.2.2.2.1,r_2.2.2.2.2.2.2.2.2.2.2.1,false,()) else none else none else none else none else none
theorem PF218_ok:F218 = PF218:=by
 funext p
 obtain ⟨x0,⟨⟩⟩:=p
 unfold PF218
 rw [← PB218_0_ok,← PF256_ok,← PF41_ok]
 kernel_rfl
def PF219:ByteArray × Int × Int × Int × ByteArray × Unit → Option (List R8 × Unit):=fun (x0,x1,x2,x3,x4,_) =>
 bif bl x0 == [] then bif bl x0 == [] then some ([(x1,x2,x3,x4,x1,x2,x3,x4,false,true,false,())],()) else bif bl x0 == [33,61] then Option.bind (PF175 ([(x1,x2,x3,x4,x1,x2,x3,x4,false,true,false,())],())) fun r => some (r.1,()) else bif bl x0 == [62] then some ([(x1,x2,x3,x4,ofNat 0,ofNat 0,ofNat 0,(lit []),true,false,true,())],()) else bif bl x0 == [62,61] then some ([(x1,x2,x3,x4,ofNat 0,ofNat 0,ofNat 0,(lit []),false,false,true,())],()) else bif bl x0 == [60] then Option.bind (PF217 ()) fun r => some ([(r.1,r.2.1,r.2.2.1,r.2.2.2.1,x1,x2,x3,x4,false,false,false,())],()) else bif bl x0 == [60,61] then Option.bind (PF217 ()) fun r => some ([(r.1,r.2.1,r.2.2.1,r.2.2.2.1,x1,x2,x3,x4,false,true,false,())],()) else bif bl x0 == [126] then Option.bind (PF256 (x1,x2,x3,x4,ofNat 1,())) fun r => some ([(r.1,r.2.1,r.2.2.1,r.2.2.2.1,r.2.2.2.2.1,r.2.2.2.2.2.1,r.2.2.2.2.2.2.1,r.2.2.2.2.2.2.2.1,r.2.2.2.2.2.2.2.2.1,r.2.2.2.2.2.2.2.2.2.1,r.2.2.2.2.2.2.2.2.2.2.1,())],()) else bif decide (x1 > ofNat 0) then Option.bind (PF256 (x1,x2,x3,x4,ofNat 0,())) fun r => some ([(r.1,r.2.1,r.2.2.1,r.2.2.2.1,r.2.2.2.2.1,r.2.2.2.2.2.1,r.2.2.2.2.2.2.1,r.2.2.2.2.2.2.2.1,r.2.2.2.2.2.2.2.2.1,r.2.2.2.2.2.2.2.2.2.1,r.2.2.2.2.2.2.2.2.2.2.1,())],()) else bif decide (x2 > ofNat 0) then Option.bind (PF256 (x1,x2,x3,x4,ofNat 1,())) fun r => some ([(r.1,r.2.1,r.2.2.1,r.2.2.2.1,r.2.2.2.2.1,r.2.2.2.2.2.1,r.2.2.2.2.2.2.1,r.2.2.2.2.2.2.2.1,r.2.2.2.2.2.2.2.2.1,r.2.2.2.2.2.2.2.2.2.1,r.2.2.2.2.2.2.2.2.2.2.1,())],()) else Option.bind (PF256 (x1,x2,x3,x4,ofNat 2,())) fun r => some ([(r.1,r.2.1,r.2.2.1,r.2.2.2.1,r.2.2.2.2.1,r.2.2.2.2.2.1,r.2.2.2.2.2.2.1,r.2.2.2.2.2.2.2.1,r.2.2.2.2.2.2.2.2.1,r.2.2.2.2.2.2.2.2.2.1,r.2.2.2.2.2.2.2.2.2.2.1,())],()) else bif bl x0 == [61] then some ([(x1,x2,x3,x4,x1,x2,x3,x4,false,true,false,())],()) else bif bl x0 == [33,61] then Option.bind (PF175 ([(x1,x2,x3,x4,x1,x2,x3,x4,false,true,false,())],())) fun r => some (r.1,()) else bif bl x0 == [62] then some ([(x1,x2,x3,x4,ofNat 0,ofNat 0,ofNat 0,(lit []),true,false,true,())],()) else bif bl x0 == [62,61] then some ([(x1,x2,x3,x4,ofNat 0,ofNat 0,ofNat 0,(lit []),false,false,true,())],()) else bif bl x0 == [60] then Option.bind (PF217 ()) fun r => some ([(r.1,r.2.1,r.2.2.1,r.2.2.2.1,x1,x2,x3,x4,false,false,false,())],()) else bif bl x0 == [60,61] then Option.bind (PF217 ()) fun r => some ([(r.1,r.2.1,r.2.2.1,r.2.2.2.1,x1,x2,x3,x4,false,true,false,())],()) else bif bl x0 == [126] then Option.bind (PF256 (x1,x2,x3,x4,ofNat 1,())) fun r => some ([(r.1,r.2.1,r.2.2.1,r.2.2.2.1,r.2.2.2.2.1,r.2.2.2.2.2.1,r.2.2.2.2.2.2.1,r.2.2.2.2.2.2.2.1,r.2.2.2.2.2.2.2.2.1,r.2.2.2.2.2.2.2.2.2.1,r.2.2.2.2.2.2.2.2.2.2.1,())],()) else bif decide (x1 > ofNat 0) then Option.bind (PF256 (x1,x2,x3,x4,ofNat 0,())) fun r => some ([(r.1,r.2.1,r.2.2.1,r.2.2.2.1,r.2.2.2.2.1,r.2.2.2.2.2.1,r.2.2.2.2.2.2.1,r.2.2.2.2.2.2.2.1,r.2.2.2.2.2.2.2.2.1,r.2.2.2.2.2.2.2.2.2.1,r.2.2.2.2.2.2.2.2.2.2.1,())],()) else bif decide (x2 > ofNat 0) then Option.bind (PF256 (x1,x2,x3,x4,ofNat 1,())) fun r => some ([(r.1,r.2.1,r.2.2.1,r.2.2.2.1,r.2.2.2.2.1,r.2.2.2.2.2.1,r.2.2.2.2.2.2.1,r.2.2.2.2.2.2.2.1,r.2.2.2.2.2.2.2.2.1,r.2.2.2.2.2.2.2.2.2.1,r.2.2.2.2.2.2.2.2.2.2.1,())],()) else Option.bind (PF256 (x1,x2,x3,x4,ofNat 2,())) fun r => some ([(r.1,r.2.1,r.2.2.1,r.2.2.2.1,r.2.2.2.2.1,r.2.2.2.2.2.1,r.2.2.2.2.2.2.1,r.2.2.2.2.2.2.2.1,r.2.2.2.2.2.2.2.2.1,r.2.2.2.2.2.2.2.2.2.1,r.2.2.2.2.2.2.2.2.2.2.1,())],())
theorem PF219_ok:F219 = PF219:=by
 funext p
 obtain ⟨x0,x1,x2,x3,x4,⟨⟩⟩:=p
 unfold PF219
 rw [← PF175_ok,← PF217_ok,← PF256_ok]
 kernel_rfl
def PB178_0:ByteArray × Int × List ByteArray × Unit → Option ((ByteArray × Int × List ByteArray × Unit) ⊕ (List R8 × Bool × Bool × Unit) ⊕ (Unit)):=fun (x0,x1,x2,_) =>
 bif decide (x1 < ofNat (length x2)) then bif decide (ofNat 0 ≤ x1) then Option.bind x2[toNat x1]? fun y => bif decide (ofNat (size x0) < ofNat (size y)) then some (inl (x0,wrap .i64 (x1 + ofNat 1),x2,())) else bif decide (ofNat 0 ≤ ofNat (size y)) && decide (ofNat (size y) ≤ ofNat (size x0)) then bif decide (ofNat 0 ≤ x1) then Option.bind x2[toNat x1]? fun y_1 => bif !bl (ByteArray.extract x0 0 (toNat (ofNat (size y)))) == bl y_1 then some (inl (x0,wrap .i64 (x1 + ofNat 1),x2,())) else bif decide (ofNat 0 ≤ ofNat (size y)) && (decide (ofNat (size y) ≤ ofNat (size x0)) && decide (ofNat (size x0) ≤ ofNat (size x0))) then Option.bind (PF169 (ByteArray.extract x0 (toNat (ofNat (size y))) (toNat (ofNat (size x0))),())) fun r => bif !r.2.2.2.2.1 then some (inr (inl ([],false,false,()))) else bif decide (ofNat 0 ≤ x1) then Option.bind x2[toNat x1]? fun y => Option.bind (PF219 (y,r.1,r.2.1,r.2.2.1,r.2.2.2.1,())) fun r => Option.bind (PF179 (r.1,())) fun r => bif decide (ofNat 0 ≤ x1) then Option.bind x2[toNat x1]? fun y => some (inr (inl (r.1,bl y == [],true,()))) else none else none else none else none else none else none else some (inr (inr ()))
theorem PB178_0_ok:B178_0 = PB178_0:=by
 funext p
 obtain ⟨x0,x1,x2,⟨⟩⟩:=p
 unfold PB178_0
 rw [← PF169_ok,← PF179_ok,← PF219_ok]
 kernel_rfl
def PF178:ByteArray × Unit → Option (List R8 × Bool × Bool × Unit):=fun (x0,_) =>
 bif bl x0 == [42] then Option.bind (PF175 ([],())) fun r => some (r.1,false,true,()) else Option.bind (PF218 (x0,())) fun r => bif r.2.2.2.2.2.2.2.2.2.2.2.1 then Option.bind (PF179 ([(r.1,r.2.1,r.2.2.1,r.2.2.2.1,r.2.2.2.2.1,r.2.2.2.2.2.1,r.2.2.2.2.2.2.1,r.2.2.2.2.2.2.2.1,r.2.2.2.2.2.2.2.2.1,r.2.2.2.2.2.2.2.2.2.1,r.2.2.2.2.2.2.2.2.2.2.1,())],())) fun r => some (r.1,false,true,()) else Option.bind (loop PB178_0 (x0,ofNat 0,[(lit [33,61]),(lit [62,61]),(lit [60,61]),(lit [61]),(lit [62]),(lit [60]),(lit [94]),(lit [126]),(lit [])],())) fun r => elim (fun p => some (p.1,p.2.1,p.2.2.1,())) (fun p => some ([],false,false,())) r
theorem PF178_ok:F178 = PF178:=by
 funext p
 obtain ⟨x0,⟨⟩⟩:=p
 unfold PF178
 rw [← PB178_0_ok,← PF175_ok,← PF179_ok,← PF218_ok]
 kernel_rfl
def PF119:List R8 × List R8 × Unit → Option (List R8 × Unit):=fun (x0,x1,_) =>
 bif decide (0 + length x0 ≤ 1599289640401) then bif decide (length ([] ++ x0) + length x1 ≤ 1599289640401) then Option.bind (PF179 ([] ++ x0 ++ x1,())) fun r => some (r.1,()) else none else none
theorem PF119_ok:F119 = PF119:=by
 funext p
 obtain ⟨x0,x1,⟨⟩⟩:=p
 unfold PF119
 rw [← PF179_ok]
 kernel_rfl
def PF180:List R8 × List R8 × Unit → Option (List R8 × Unit):=fun (x0,x1,_) =>
 Option.bind (PF175 (x0,())) fun r => Option.bind (PF175 (x1,())) fun r_1 => Option.bind (PF119 (r.1,r_1.1,())) fun r => Option.bind (PF175 (r.1,())) fun r => some (r.1,())
theorem PF180_ok:F180 = PF180:=by
 funext p
 obtain ⟨x0,x1,⟨⟩⟩:=p
 unfold PF180
 rw [← PF119_ok,← PF175_ok]
 kernel_rfl
def PB118_0:List R8 × Int × ByteArray × Int × Unit → Option ((List R8 × Int × ByteArray × Int × Unit) ⊕ List R8 × Int × Bool × ByteArray × Int × Unit):=fun (x0,x1,x2,x3,_) =>
 bif decide (x1 > ofNat 0) then bif decide (x3 ≥ ofNat (size x2)) then some (inr (x0,ofNat 0,true,x2,x3,())) else bif decide (ofNat 0 ≤ x3) && decide (x3 < ofNat (size x2)) then bif bt x2 x3 == ofNat 124 then some (inr (x0,ofNat 0,true,x2,x3,())) else Option.bind (PF177 (x2,x3,())) fun r => Option.bind (PF178 (r.1,())) fun r_1 => bif !r_1.2.2.1 then some (inr ([],r.2.1,false,r.2.2.1,r.2.2.2.1,())) else bif r_1.2.1 then bif decide (r.2.2.2.1 < ofNat (size r.2.2.1)) then bif decide (ofNat 0 ≤ r.2.2.2.1) && decide (r.2.2.2.1 < ofNat (size r.2.2.1)) then bif bt r.2.2.1 r.2.2.2.1 == ofNat 45 then Option.bind (PF177 (r.2.2.1,r.2.2.2.1,())) fun r => Option.bind (PF177 (r.2.2.1,r.2.2.2.1,())) fun r_2 => Option.bind (PF169 (r_2.1,())) fun r_3 => bif !bl r.1 == [45] then some (inr ([],r.2.1,false,r_2.2.2.1,r_2.2.2.2.1,())) else bif !r_3.2.2.2.2.1 then some (inr ([],r_2.2.1,false,r_2.2.2.1,r_2.2.2.2.1,())) else Option.bind r_1.1[0]? fun y => Option.bind (PF179 ([(y.1,y.2.1,y.2.2.1,y.2.2.2.1,r_3.1,r_3.2.1,r_3.2.2.1,r_3.2.2.2.1,false,true,false,())],())) fun r => Option.bind (PF180 (x0,r.1,())) fun r => some (inl (r.1,wrap .i64 (x1 + ofNat 1),r_2.2.2.1,r_2.2.2.2.1,())) else Option.bind (PF180 (x0,r_1.1,())) fun r_2 => some (inl (r_2.1,wrap .i64 (x1 + ofNat 1),r.2.2.1,r.2.2.2.1,())) else none else Option.bind (PF180 (x0,r_1.1,())) fun r_2 => some (inl (r_2.1,wrap .i64 (x1 + ofNat 1),r.2.2.1,r.2.2.2.1,())) else Option.bind (PF180 (x0,r_1.1,())) fun r_2 => some (inl (r_2.1,wrap .i64 (x1 + ofNat 1),r.2.2.1,r.2.2.2.1,())) else none else Option.bind (PF177 (x2,x3,())) fun r => Option.bind (PF178 (r.1,())) fun r_1 => bif !r_1.2.2.1 then some (inr ([],r.2.1,false,r.2.2.1,r.2.2.2.1,())) else bif r_1.2.1 then bif decide (r.2.2.2.1 < ofNat (size r.2.2.1)) then bif decide (ofNat 0 ≤ r.2.2.2.1) && decide (r.2.2.2.1 < ofNat (size r.2.2.1)) then bif bt r.2.2.1 r.2.2.2.1 == ofNat 45 then Option.bind (PF177 (r.2.2.1,r.2.2.2.1,())) fun r => Option.bind (PF177 (r.2.2.1,r.2.2.2.1,())) fun r_2 => Option.bind (PF169 (r_2.1,())) fun r_3 => bif !bl r.1 == [45] then some (inr ([],r.2.1,false,r_2.2.2.1,r_2.2.2.2.1,())) else bif !r_3.2.2.2.2.1 then some (inr ([],r_2.2.1,false,r_2.2.2.1,r_2.2.2.2.1,())) else Option.bind r_1.1[0]? fun y => Option.bind (PF179 ([(y.1,y.2.1,y.2.2.1,y.2.2.2.1,r_3.1,r_3.2.1,r_3.2.2.1,r_3.2.2.2.1,false,true,false,())],())) fun r => Option.bind (PF180 (x0,r.1,())) fun r => some (inl (r.1,wrap .i64 (x1 + ofNat 1),r_2.2.2.1,r_2.2.2.2.1,())) else Option.bind (PF180 (x0,r_1.1,())) fun r_2 => some (inl (r_2.1,wrap .i64 (x1 + ofNat 1),r.2.2.1,r.2.2.2.1,())) else none else Option.bind (PF180 (x0,r_1.1,())) fun r_2 => some (inl (r_2.1,wrap .i64 (x1 + ofNat 1),r.2.2.1,r.2.2.2.1,())) else Option.bind (PF180 (x0,r_1.1,())) fun r_2 => some (inl (r_2.1,wrap .i64 (x1 + ofNat 1),r.2.2.1,r.2.2.2.1,()))
theorem PB118_0_ok:B118_0 = PB118_0:=by
 funext p
 obtain ⟨x0,x1,x2,x3,⟨⟩⟩:=p
 unfold PB118_0
 rw [← PF169_ok,← PF177_ok,← PF178_ok,← PF179_ok,← PF180_ok]
 kernel_rfl
def PF118:ByteArray × Int × Unit → Option (List R8 × Int × Bool × ByteArray × Int × Unit):=fun (x0,x1,_) =>
 Option.bind (PF175 ([],())) fun r => Option.bind (PF176 (x0,x1,())) fun r_1 => Option.bind (loop PB118_0 (r.1,ofNat 0,r_1.1,r_1.2.1,())) fun r => some (r.1,r.2.1,r.2.2.1,r.2.2.2.1,r.2.2.2.2.1,())
theorem PF118_ok:F118 = PF118:=by
 funext p
 obtain ⟨x0,x1,⟨⟩⟩:=p
 unfold PF118
 rw [← PB118_0_ok,← PF175_ok,← PF176_ok]
 kernel_rfl
def PB69_0:ByteArray × List R8 × ByteArray × Int × Unit → Option ((ByteArray × List R8 × ByteArray × Int × Unit) ⊕ List R8 × Int × Int × Unit):=fun (x0,x1,x2,x3,_) =>
 Option.bind (PF118 (x2,x3,())) fun r => bif !r.2.2.1 then some (inr ([],r.2.1,ofNat 6,())) else Option.bind (PF119 (x1,r.1,())) fun r_1 => bif decide (r.2.2.2.2.1 ≥ ofNat (size x0)) then some (inr (r_1.1,ofNat 0,ofNat 0,())) else bif decide (wrap .i64 (r.2.2.2.2.1 + ofNat 1) ≥ ofNat (size x0)) then some (inr ([],wrap .i64 (r.2.2.2.2.1 + ofNat 1),ofNat 6,())) else bif decide (ofNat 0 ≤ wrap .i64 (r.2.2.2.2.1 + ofNat 1)) && decide (wrap .i64 (r.2.2.2.2.1 + ofNat 1) < ofNat (size x0)) then bif !bt x0 (wrap .i64 (r.2.2.2.2.1 + ofNat 1)) == ofNat 124 then some (inr ([],wrap .i64 (r.2.2.2.2.1 + ofNat 1),ofNat 6,())) else some (inl (x0,r_1.1,r.2.2.2.1,wrap .i64 (r.2.2.2.2.1 + ofNat 2),())) else none
theorem PB69_0_ok:B69_0 = PB69_0:=by
 funext p
 obtain ⟨x0,x1,x2,x3,⟨⟩⟩:=p
 unfold PB69_0
 rw [← PF118_ok,← PF119_ok]
 kernel_rfl
def PF69:ByteArray × Unit → Option (List R8 × Int × Int × Unit):=fun (x0,_) =>
 Option.bind (loop PB69_0 (x0,[],x0,ofNat 0,())) fun r => some (r.1,r.2.1,r.2.2.1,())
theorem PF69_ok:F69 = PF69:=by
 funext p
 obtain ⟨x0,⟨⟩⟩:=p
 unfold PF69
 rw [← PB69_0_ok]
 kernel_rfl
def PB70_0:List R8 × Int × Int × Int × Int × ByteArray × Unit → Option ((List R8 × Int × Int × Int × Int × ByteArray × Unit) ⊕ (Bool × Unit) ⊕ (Unit)):=fun (x0,x1,x2,x3,x4,x5,_) =>
 bif decide (x1 < ofNat (length x0)) then bif decide (ofNat 0 ≤ x1) then Option.bind x0[toNat x1]? fun y => Option.bind (PF117 (y.1,y.2.1,y.2.2.1,y.2.2.2.1,x2,x3,x4,x5,())) fun r => Option.bind (PF117 (x2,x3,x4,x5,y.2.2.2.2.1,y.2.2.2.2.2.1,y.2.2.2.2.2.2.1,y.2.2.2.2.2.2.2.1,())) fun r_1 => bif decide (r.1 < ofNat 0) then bif y.2.2.2.2.2.2.2.2.2.2.1 then some (inr (inl (true,()))) else bif decide (r_1.1 < ofNat 0) then some (inr (inl (true,()))) else bif r_1.1 == ofNat 0 then bif y.2.2.2.2.2.2.2.2.2.1 then some (inr (inl (true,()))) else some (inl (x0,wrap .i64 (x1 + ofNat 1),x2,x3,x4,x5,())) else some (inl (x0,wrap .i64 (x1 + ofNat 1),x2,x3,x4,x5,())) else bif r.1 == ofNat 0 then bif !y.2.2.2.2.2.2.2.2.1 then bif y.2.2.2.2.2.2.2.2.2.2.1 then some (inr (inl (true,()))) else bif decide (r_1.1 < ofNat 0) then some (inr (inl (true,()))) else bif r_1.1 == ofNat 0 then bif y.2.2.2.2.2.2.2.2.2.1 then some (inr (inl (true,()))) else some (inl (x0,wrap .i64 (x1 + ofNat 1),x2,x3,x4,x5,())) else some (inl (x0,wrap .i64 (x1 + ofNat 1),x2,x3,x4,x5,())) else some (inl (x0,wrap .i64 (x1 + ofNat 1),x2,x3,x4,x5,())) else some (inl (x0,wrap .i64 (x1 + ofNat 1),x2,x3,x4,x5,())) else none else some (inr (inr ()))
theorem PB70_0_ok:B70_0 = PB70_0:=by
 funext p
 obtain ⟨x0,x1,x2,x3,x4,x5,⟨⟩⟩:=p
 unfold PB70_0
 rw [← PF117_ok]
 kernel_rfl
def PF70:List R8 × Int × Int × Int × ByteArray × Unit → Option (Bool × Unit):=fun (x0,x1,x2,x3,x4,_) =>
 Option.bind (loop PB70_0 (x0,ofNat 0,x1,x2,x3,x4,())) fun r => elim (fun p => some (p.1,())) (fun p => some (false,())) r
theorem PF70_ok:F70 = PF70:=by
 funext p
 obtain ⟨x0,x1,x2,x3,x4,⟨⟩⟩:=p
 unfold PF70
 rw [← PB70_0_ok]
 kernel_rfl
end
end Go.Vx.Z
/-! The harness: ids, versions of no release. -/
namespace Go.Vx.Z
open Go Go.Vx
set_option linter.unusedVariables false
set_option maxRecDepth 1000000
set_option maxHeartbeats 4000000
def idK (i:Nat):ByteArray:=(lit ([48,49,50,51,52,53,54,55,56,57,97,98,99,100,101,102].extract i (i + 1)) ++ lit [57]) ++ lit (([48,48,49,49,50,50,51,51,52,52,53,53,54,54,55,55,56,56,57,57]:List UInt8).take (10 + (i + 9) % 9))
def stampK (i:Nat):ByteArray:=lit [50,48,50,48,48,49,48,49,48,48,48,48,48,UInt8.ofNat (48 + i)]
def wordK (i:Nat):ByteArray:=stampK i ++ lit [45] ++ (idK i).extract 0 12
def preK (i:Nat):ByteArray:=lit [48,46] ++ wordK i
def pseudoK (i:Nat):Ver:=(majors.getD i 0,1,1,preK i,())
theorem F27_is (i:Nat) (h:i < 7):F27 ((i:Int),()) = some ((pseudoK i).1,(pseudoK i).2.1,(pseudoK i).2.2.1,(pseudoK i).2.2.2.1,()):=by
 rw [PF27_ok]
 exact match i,h with
 | 0,_ => by kernel_rfl
 | 1,_ => by kernel_rfl
 | 2,_ => by kernel_rfl
 | 3,_ => by kernel_rfl
 | 4,_ => by kernel_rfl
 | 5,_ => by kernel_rfl
 | 6,_ => by kernel_rfl
end Go.Vx.Z
/-! The harness: the world that is made. -/
namespace Go.Vx.Z
open Go Go.Vx
set_option linter.unusedVariables false
set_option maxRecDepth 100000
def rc1:ByteArray:=lit [114,99,46,49]
def versK (j:Nat):List Ver:=[(majors.getD j 0,0,0,lit [],()),(majors.getD j 0,1,0,lit [],()),pseudoK j,(majors.getD j 0,2,0,rc1,()),(majors.getD j 0,2,0,lit [],())]
def GoodReq (n:Nat) (r:Req):Prop:=∃ j,j < n ∧ r.1 = pathsL.getD j (lit []) ∧ r.2 ∈ versK j
theorem reqs_made (ns:List Int) (wh:Bool) (n i:Nat) (hn:n ≤ 7) (p:ByteArray) (a k:Int) (l:List Ver) (mp:ByteArray) (v1 v2 v3:Int) (v4 s1 s2:ByteArray) (ms:List Mod) (rs:List Rev) (rl:List Rel) (at_:Nat) (hat:at_ ≤ 1000000) :
  ∃ (at':Nat) (reqs:List Req),loop B10_0 (ns,wh,(n:Int),(at_:Int),(i:Int),p,a,k,Int.ofNat 0,l,mp,v1,v2,v3,v4,s1,s2,ms,rs,rl,[],()) = some (ns,wh,(n:Int),(at':Int),(i:Int),p,a,k,l,mp,v1,v2,v3,v4,s1,s2,ms,rs,rl,reqs,()) ∧
   at' ≤ at_ + n ∧ reqs.length ≤ n ∧ ∀ r ∈ reqs,GoodReq n r:=by
 cases hns0:ns with
 | nil =>
  refine ⟨at_,[],loop_end ?_,by omega,by simp,by simp⟩
  rw [B10_0_eq]
  cases decide (Int.ofNat 0 < (n:Int)) <;> rfl
 | cons z zs =>
 rw [← hns0]
 have hpos:0 < ns.length:=by rw [hns0]; simp
 obtain ⟨⟨at',reqs⟩,h1,h2⟩:=loop_upto (B:=B10_0) n (fun j (b:Nat × List Req) => (ns,wh,(n:Int),(b.1:Int),(i:Int),p,a,k,(j:Int),l,mp,v1,v2,v3,v4,s1,s2,ms,rs,rl,b.2,()))
  (fun b => (ns,wh,(n:Int),(b.1:Int),(i:Int),p,a,k,l,mp,v1,v2,v3,v4,s1,s2,ms,rs,rl,b.2,())) (fun j b => b.1 ≤ at_ + j ∧ b.2.length ≤ j ∧ ∀ r ∈ b.2,GoodReq n r) (by
   rintro j hj ⟨at1,reqs⟩ ⟨q1,q2,q3⟩
   simp only at q1 q2 q3 ⊢
   rw [B10_0_eq]
   have e1:decide ((j:Int) < (n:Int)) = true:=by simp; omega
   have e2:decide (Int.ofNat ns.length > Int.ofNat 0) = true:=by simp; omega
   have e3:(!decide (Int.ofNat ns.length = Int.ofNat 0)) = true:=by
    rw [Bool.not_eq_true',decide_eq_false_iff_not]
    intro h
    have:=Int.ofNat.inj h
    omega
   have hmod:Int.tmod (at1:Int) (Int.ofNat ns.length) = ((at1 % ns.length:Nat):Int):=by
    rw [Int.ofNat_eq_natCast,Int.tmod_eq_emod_of_nonneg (by omega)]; rfl
   have hidx:at1 % ns.length < ns.length:=Nat.mod_lt _ hpos
   rw [e1,e2,e3,hmod,ge_zero,at_in hidx]
   simp only [cond_true,Option.bind_some]
   obtain ⟨kk,hk1,hk2⟩:=F24_is (IntKind.wrap IntKind.i64 (ns[at1 % ns.length] + (at1:Int))) 1073741824 (by omega) (by omega)
   have hk2':F24 (IntKind.wrap IntKind.i64 (ns[at1 % ns.length] + (at1:Int)),Int.ofNat 1073741824,()) = some ((kk:Int),()):=hk2
   rw [hk2',Option.bind_some]
   rw [wrap_next (show at1 < 2000000 by omega) (by omega),wrap_next hj (by omega)]
   have hskip:∃ b':Nat × List Req,some (Sum.inl (ns,wh,(n:Int),((at1 + 1:Nat):Int),(i:Int),p,a,k,((j + 1:Nat):Int),l,mp,v1,v2,v3,v4,s1,s2,ms,rs,rl,reqs,()):_ ⊕ OutsD os10_0) = some (Sum.inl (ns,wh,(n:Int),(b'.1:Int),(i:Int),p,a,k,((j + 1:Nat):Int),l,mp,v1,v2,v3,v4,s1,s2,ms,rs,rl,b'.2,())) ∧ b'.1 ≤ at_ + (j + 1) ∧ b'.2.length ≤ j + 1 ∧ ∀ r ∈ b'.2,GoodReq n r:=
    ⟨(at1 + 1,reqs),rfl,by simp only; omega,by simp only; omega,q3⟩
   cases hji:((j:Int) == (i:Int)) with
   | true => exact hskip
   | false =>
    simp only [cond_false]
    cases h5:decide (Int.tmod (kk:Int) (Int.ofNat 5) > Int.ofNat 1) with
    | true => exact hskip
    | false =>
     simp only [cond_false]
     rw [F26_is j (by omega),Option.bind_some,F27_is j (by omega),Option.bind_some]
     have htd:Int.tdiv (kk:Int) (Int.ofNat 5) = ((kk / 5:Nat):Int):=by
      rw [Int.ofNat_eq_natCast,Int.tdiv_eq_ediv_of_nonneg (by omega)]; rfl
     have hw:IntKind.wrap IntKind.i64 (Int.tdiv (kk:Int) (Int.ofNat 5)) = ((kk / 5:Nat):Int):=by
      rw [htd]; exact wrap64 (by omega) (by omega)
     have htm:Int.tmod ((kk / 5:Nat):Int) (Int.ofNat 5) = ((kk / 5 % 5:Nat):Int):=by
      rw [Int.ofNat_eq_natCast,Int.tmod_eq_emod_of_nonneg (by omega)]; rfl
     rw [hw,htm,ge_zero,cond_true]
     have h55:kk / 5 % 5 < (versK j).length:=Nat.mod_lt _ (by decide)
     show ∃ b',(Option.bind (versK j)[Int.toNat ((kk / 5 % 5:Nat):Int)]? _) = _ ∧ _
     rw [at_in h55,Option.bind_some,F25_is,Option.bind_some,ge_zero,cond_true]
     have hjp:j < pathsL.length:=by show j < 7; omega
     simp only
     rw [at_in hjp,Option.bind_some]
     have e2:∀ z:Req,decide (reqs.length + [z].length ≤ 2513169434916) = true:=by
      intro z; rw [decide_eq_true_eq]; simp only [List.length_cons,List.length_nil]; omega
     rw [e2]
     refine ⟨(at1 + 1,reqs ++ [(pathsL[j],(versK j)[kk / 5 % 5])]),rfl,by simp only; omega,by simp; omega,fun r hr => ?_⟩
     rcases List.mem_append.1 hr with hr | hr
     ·exact q3 r hr
     ·rw [List.mem_singleton.1 hr]
      exact ⟨j,hj,by simp [List.getD,hjp],List.getElem_mem h55⟩) (by
   rintro ⟨at1,reqs⟩ ⟨q1,q2,q3⟩
   rw [B10_0_eq]
   have:decide ((n:Int) < (n:Int)) = false:=by simp
   rw [this]
   rfl) 0 (at_,[]) (by omega) ⟨by simp,by simp,by simp⟩
 exact ⟨at',reqs,h1,h2.1,h2.2.1,h2.2.2⟩
end Go.Vx.Z
/-! The harness: releases of the world that is made. -/
namespace Go.Vx.Z
open Go Go.Vx
set_option linter.unusedVariables false
set_option maxRecDepth 100000
theorem fitsS_small {x y:ByteArray} (hx:x.size ≤ 1000) (hy:y.size ≤ 1000):fitsS x y = true:=by
 unfold fitsS
 exact Nat.ble_eq_true_of_le (by omega)
noncomputable def dig70 (m:Nat):Bool:=match F28 ((m:Int),()) with
 | some (s,_) => Nat.ble s.size 100
 | none => false
theorem F28_all:(List.range 70).all dig70 = true:=by kernel_rfl
theorem F28_small (m:Nat) (h:m < 70):∃ s:ByteArray,F28 ((m:Int),()) = some (s,()) ∧ s.size ≤ 100:=by
 have:=List.all_eq_true.1 F28_all m (List.mem_range.2 h)
 unfold dig70 at this
 split at this
 ·rename_i s u hs
  exact ⟨s,hs,Nat.le_of_ble_eq_true this⟩
 ·cases this
theorem rels_made (ns:List Int) (n i:Nat) (hn:n ≤ 7) (hi:i < 7) (p:ByteArray) (a:Int) (l:List Ver) (hl:l.length ≤ 6) (mp:ByteArray) (ms:List Mod) (rs:List Rev) (at_:Nat) (hat:at_ ≤ 900000) :
  ∃ (at':Nat) (rels:List Rel),loop B10_1 (ns,true,(n:Int),(at_:Int),(i:Int),p,a,Int.ofNat 0,l,mp,ms,rs,[],()) = some (ns,true,(n:Int),(at':Int),(i:Int),p,a,mp,ms,rs,rels,()) ∧
   at' ≤ at_ + n * l.length ∧ rels.map Rel.v = l ∧ ∀ y ∈ rels,y.reqs.length ≤ n ∧ ∀ r ∈ y.reqs,GoodReq n r:=by
 obtain ⟨⟨at',rels⟩,h1,h2⟩:=loop_upto (B:=B10_1) l.length (fun k (b:Nat × List Rel) => (ns,true,(n:Int),(b.1:Int),(i:Int),p,a,(k:Int),l,mp,ms,rs,b.2,()))
  (fun b => (ns,true,(n:Int),(b.1:Int),(i:Int),p,a,mp,ms,rs,b.2,())) (fun k b => b.1 ≤ at_ + n * k ∧ b.2.map Rel.v = l.take k ∧ ∀ y ∈ b.2,y.reqs.length ≤ n ∧ ∀ r ∈ y.reqs,GoodReq n r) (by
   rintro k hk ⟨at1,rels⟩ ⟨q1,q2,q3⟩
   simp only at q1 q2 q3 ⊢
   have hnk:n * k ≤ 7 * 6:=Nat.mul_le_mul hn (by omega)
   have hrl:rels.length ≤ 6:=by
    have:=congrArg List.length q2
    simp at this; omega
   rw [B10_1_eq,lt_in hk,ge_zero,at_in hk]
   simp only [cond_true,Option.bind_some]
   have hw:IntKind.wrap IntKind.i64 (IntKind.wrap IntKind.i64 (Int.ofNat 10 * (i:Int)) + (k:Int)) = ((10 * i + k:Nat):Int):=by
    rw [show Int.ofNat 10 * (i:Int) = ((10 * i:Nat):Int) by simp]
    rw [wrap64 (x:=((10 * i:Nat):Int)) (by omega) (by omega),wrap64 (by omega) (by omega)]
    omega
   obtain ⟨s,hs1,hs2⟩:=F28_small (10 * i + k) (by omega)
   rw [hw,hs1,Option.bind_some]
   have f1:fitsS (lit [104]) s = true:=fitsS_small (by decide) (by omega)
   have f2:fitsS (lit [104] ++ s) (lit [61]) = true:=fitsS_small (by rw [ByteArray.size_append]; have:(lit [104]).size = 1:=rfl; omega) (by decide)
   have f3:fitsS (lit [109]) s = true:=fitsS_small (by decide) (by omega)
   simp only
   rw [f1,f2]
   simp only [cond_true,Option.bind_some]
   rw [f3,cond_true]
   obtain ⟨at2,reqs,g1,g2,g3,g4⟩:=reqs_made ns true n i hn p a (k:Int) l mp l[k].1 l[k].2.1 l[k].2.2.1 l[k].2.2.2.1 (lit [104] ++ s ++ lit [61]) (lit [109] ++ s) ms rs rels at1 (by omega)
   rw [g1,Option.bind_some]
   simp only [Bool.not_true,cond_false]
   have e2:∀ z:Rel,decide (rels.length + [z].length ≤ 1466015503701) = true:=by
    intro z; rw [decide_eq_true_eq]; simp only [List.length_cons,List.length_nil]; omega
   rw [e2,cond_true,wrap_next hk (by omega)]
   refine ⟨(at2,rels ++ [(l[k].1,l[k].2.1,l[k].2.2.1,l[k].2.2.2.1,reqs,lit [104] ++ s ++ lit [61],lit [109] ++ s,())]),rfl,?_,?_,?_⟩
   ·simp only [Nat.mul_add,Nat.mul_one]; omega
   ·simp only [List.map_append,q2,List.map_cons,List.map_nil]
    rw [List.take_succ_eq_append_getElem hk]
    rfl
   ·intro y hy
    rcases List.mem_append.1 hy with hy | hy
    ·exact q3 y hy
    ·rw [List.mem_singleton.1 hy]
     exact ⟨g3,g4⟩) (by
   rintro ⟨at1,rels⟩ ⟨q1,q2,q3⟩
   rw [B10_1_eq,lt_out]
   rfl) 0 (at_,[]) (by omega) ⟨by simp,by simp,by simp⟩
 obtain ⟨h3,h4,h5⟩:=h2
 exact ⟨at',rels,h1,h3,by rw [h4,List.take_length],h5⟩
end Go.Vx.Z
/-! The harness: modules of the world that is made. -/
namespace Go.Vx.Z
open Go Go.Vx
set_option linter.unusedVariables false
set_option maxRecDepth 100000
def verL (i:Nat):List Ver:=(if majors.getD i 0 = 1 then [((0:Int),(5:Int),(0:Int),lit [],())] else []) ++ versK i
def ModOK (n k:Nat) (m:Mod):Prop:=m.1 = pathsL.getD k (lit []) ∧ m.2.1.map Rel.v = verL k ∧ ∀ y ∈ m.2.1,y.reqs.length ≤ n ∧ ∀ r ∈ y.reqs,GoodReq n r
noncomputable def id70 (i:Nat):Bool:=(F29 ((i:Int),Int.ofNat 1,())).isSome && ((F29 ((i:Int),Int.ofNat 2,())).isSome && ((F29 ((i:Int),Int.ofNat 3,())).isSome && ((F29 ((i:Int),Int.ofNat 8,())).isSome && (F29 ((i:Int),Int.ofNat 9,())).isSome)))
theorem id_all:(List.range 7).all id70 = true:=by kernel_rfl
noncomputable def idOf (i k:Nat):ByteArray:=((F29 ((i:Int),Int.ofNat k,())).getD (lit [],())).1
theorem idOf_is {i k:Nat} (h:(F29 ((i:Int),Int.ofNat k,())).isSome = true):F29 ((i:Int),Int.ofNat k,()) = some (idOf i k,()):=by
 unfold idOf
 cases hF:F29 ((i:Int),Int.ofNat k,()) with
 | none => rw [hF] at h; cases h
 | some p => rfl
theorem F29_some (i:Nat) (h:i < 7):F29 ((i:Int),Int.ofNat 1,()) = some (idOf i 1,()) ∧ F29 ((i:Int),Int.ofNat 2,()) = some (idOf i 2,()) ∧ F29 ((i:Int),Int.ofNat 3,()) = some (idOf i 3,()) ∧ F29 ((i:Int),Int.ofNat 8,()) = some (idOf i 8,()) ∧ F29 ((i:Int),Int.ofNat 9,()) = some (idOf i 9,()):=by
 have:=List.all_eq_true.1 id_all i (List.mem_range.2 h)
 unfold id70 at this
 simp only [Bool.and_eq_true] at this
 exact ⟨idOf_is this.1,idOf_is this.2.1,idOf_is this.2.2.1,idOf_is this.2.2.2.1,idOf_is this.2.2.2.2⟩
noncomputable def revsK (i:Nat):List Rev:=[(pathsL.getD i (lit []),idOf i 1,true,false,majors.getD i 0,Int.ofNat 0,Int.ofNat 0,lit [],Int.ofNat 0,()),(pathsL.getD i (lit []),idOf i 2,true,false,majors.getD i 0,Int.ofNat 1,Int.ofNat 0,lit [],Int.ofNat 0,()),(pathsL.getD i (lit []),idOf i 3,true,false,majors.getD i 0,Int.ofNat 2,Int.ofNat 0,lit [],Int.ofNat 0,()),
  (pathsL.getD i (lit []),idOf i 8,false,false,Int.ofNat 0,Int.ofNat 0,Int.ofNat 0,lit [],IntKind.wrap IntKind.i64 (Int.ofNat 20190101000000 + (i:Int)),()),(pathsL.getD i (lit []),idOf i 9,false,true,majors.getD i 0,Int.ofNat 1,Int.ofNat 0,lit [],IntKind.wrap IntKind.i64 (Int.ofNat 20200101000000 + (i:Int)),())]
noncomputable def revsL (n:Nat):List Rev:=(List.range n).flatMap revsK
theorem revsL_len (n:Nat):(revsL n).length = 5 * n:=by
 unfold revsL
 induction n with
 | zero => rfl
 | succ n ih => rw [List.range_succ,List.flatMap_append,List.length_append,ih]; simp [revsK]; omega
theorem verL_len (i:Nat):(verL i).length ≤ 6:=by
 unfold verL versK
 split <;> simp
theorem mods_step (ns:List Int) (n i:Nat) (hn:n ≤ 7) (hi:i < n) (ms:List Mod) (rs:List Rev) (at_:Nat) (hat:at_ ≤ 1000) (hml:ms.length ≤ 10) (hrl:rs.length ≤ 1000) :
  ∃ (at':Nat) (m:Mod) (r5:List Rev),B10_2 (ns,true,(n:Int),(at_:Int),(i:Int),ms,rs,()) = some (.inl (ns,true,(n:Int),(at':Int),((i + 1:Nat):Int),ms ++ [m],rs ++ r5,())) ∧ at' ≤ at_ + 42 ∧ ModOK n i m ∧ r5 = revsK i:=by
 have hi7:i < 7:=by omega
 have hip:i < pathsL.length:=hi7
 obtain ⟨hi1,hi2,hi3,hi8,hi9⟩:=F29_some i hi7
 obtain ⟨at',rels,h1,h2,h3,h4⟩:=rels_made ns n i hn hi7 pathsL[i] (majors.getD i 0) (verL i) (verL_len i) pathsL[i] ms rs at_ (by omega)
 have hlim:n * (verL i).length ≤ 7 * 6:=Nat.mul_le_mul hn (verL_len i)
 have e1:∀ z:Mod,decide (ms.length + [z].length ≤ 3518437208883) = true:=by
  intro z; rw [decide_eq_true_eq]; simp only [List.length_cons,List.length_nil]; omega
 have e2:∀ a b c d e:Rev,decide (rs.length + [a,b,c,d,e].length ≤ 1599289640401) = true:=by
  intro a b c d e; rw [decide_eq_true_eq]; simp only [List.length_cons,List.length_nil]; omega
 refine ⟨at',(pathsL[i],rels,()),[(pathsL[i],idOf i 1,true,false,majors.getD i 0,Int.ofNat 0,Int.ofNat 0,lit [],Int.ofNat 0,()),(pathsL[i],idOf i 2,true,false,majors.getD i 0,Int.ofNat 1,Int.ofNat 0,lit [],Int.ofNat 0,()),(pathsL[i],idOf i 3,true,false,majors.getD i 0,Int.ofNat 2,Int.ofNat 0,lit [],Int.ofNat 0,()),
  (pathsL[i],idOf i 8,false,false,Int.ofNat 0,Int.ofNat 0,Int.ofNat 0,lit [],IntKind.wrap IntKind.i64 (Int.ofNat 20190101000000 + (i:Int)),()),(pathsL[i],idOf i 9,false,true,majors.getD i 0,Int.ofNat 1,Int.ofNat 0,lit [],IntKind.wrap IntKind.i64 (Int.ofNat 20200101000000 + (i:Int)),())],?_,by omega,⟨by simp [List.getD,hip],h3,h4⟩,by simp [revsK,List.getD,hip]⟩
 rw [B10_2_eq]
 have e0:decide ((i:Int) < (n:Int)) = true:=by simp; omega
 rw [e0,cond_true,F25_is,Option.bind_some,ge_zero,cond_true]
 simp only
 rw [at_in hip,Option.bind_some,F26_is i hi7,Option.bind_some,F27_is i hi7,Option.bind_some]
 simp only
 by_cases hm:majors.getD i 0 = 1
 ·have hb:(majors.getD i 0 == Int.ofNat 1) = true:=by rw [hm]; rfl
  rw [hb,cond_true]
  have e3:∀ a b c d e:Ver,decide (1 + [a,b,c,d,e].length ≤ 3518437208883) = true:=by intro a b c d e; simp
  rw [e3,cond_true]
  have hv:verL i = [(Int.ofNat 0,Int.ofNat 5,Int.ofNat 0,lit [],())] ++ versK i:=by unfold verL; rw [if_pos hm]; rfl
  rw [hv] at h1
  have h1':=h1
  unfold versK at h1'
  erw [h1',Option.bind_some]
  simp only
  rw [e1,cond_true,hi1,Option.bind_some,hi2,Option.bind_some,hi3,Option.bind_some,hi8,Option.bind_some,hi9,Option.bind_some,e2,cond_true,wrap_next hi (by omega)]
 ·have hb:(majors.getD i 0 == Int.ofNat 1) = false:=by rw [← Bool.not_eq_true]; exact fun h => hm (by simpa using h)
  rw [hb,cond_false]
  have hv:verL i = versK i:=by unfold verL; rw [if_neg hm]; rfl
  rw [hv] at h1
  have h1':=h1
  unfold versK at h1'
  erw [h1',Option.bind_some]
  simp only
  rw [e1,cond_true,hi1,Option.bind_some,hi2,Option.bind_some,hi3,Option.bind_some,hi8,Option.bind_some,hi9,Option.bind_some,e2,cond_true,wrap_next hi (by omega)]
structure Made (n:Nat) (w:List Mod):Prop where
 pos:0 < n
 le:n ≤ 7
 len:w.length = n
 mods:∀ k m,w[k]? = some m → ModOK n k m
theorem F10_full (x0:Int) (ns:List Int):∃ (n:Nat) (w:List Mod) (rv:List Rev),F10 (x0,ns,true,()) = some (w,rv,()) ∧ Made n w ∧ rv = revsL n:=by
 obtain ⟨k,hk1,hk2⟩:=F24_is x0 7 (by omega) (by omega)
 have hk2':F24 (x0,Int.ofNat 7,()) = some ((k:Int),()):=hk2
 have hw:IntKind.wrap IntKind.i64 (Int.ofNat 1 + (k:Int)) = ((k + 1:Nat):Int):=by
  rw [show Int.ofNat 1 + (k:Int) = (k:Int) + 1 by simp; omega]
  exact wrap64s k (by omega)
 obtain ⟨⟨at',w,rv⟩,h1,h2⟩:=loop_upto (B:=B10_2) (k + 1) (fun i (b:Nat × List Mod × List Rev) => (ns,true,((k + 1:Nat):Int),(b.1:Int),(i:Int),b.2.1,b.2.2,()))
  (fun b => (b.2.1,b.2.2,())) (fun i b => b.1 ≤ 42 * i ∧ b.2.1.length = i ∧ b.2.2 = revsL i ∧ ∀ j m,b.2.1[j]? = some m → ModOK (k + 1) j m) (by
   rintro i hi ⟨at1,ms,rs⟩ ⟨q1,q2,q3,q4⟩
   simp only at q1 q2 q3 q4 ⊢
   obtain ⟨at2,m,r5,g1,g2,g3,g4⟩:=mods_step ns (k + 1) i (by omega) hi ms rs at1 (by omega) (by omega) (by rw [q3,revsL_len]; omega)
   refine ⟨(at2,ms ++ [m],rs ++ r5),g1,by simp only; omega,by simp [q2],by rw [q3,g4]; unfold revsL; rw [List.range_succ,List.flatMap_append]; simp,fun j m' hj => ?_⟩
   simp only at hj
   rw [List.getElem?_append] at hj
   split at hj
   ·exact q4 j m' hj
   ·rename_i hlt
    have:j = i:=by
     have:=(List.getElem?_eq_some_iff.1 hj).1
     simp at this; omega
    subst this
    rw [q2] at hj
    simp at hj
    rw [← hj]; exact g3) (by
   rintro ⟨at1,ms,rs⟩ ⟨q1,q2,q3,q4⟩
   rw [B10_2_eq]
   have:decide (((k + 1:Nat):Int) < ((k + 1:Nat):Int)) = false:=by simp
   rw [this]
   rfl) 0 (0,[],[]) (by omega) ⟨by simp,rfl,rfl,by simp⟩
 have h35:rv = revsL (k + 1):=h2.2.2.1
 refine ⟨k + 1,w,rv,?_,⟨by omega,by omega,h2.2.1,h2.2.2.2⟩,h35⟩
 rw [F10_eq,hk2',Option.bind_some]
 simp only
 rw [hw]
 have h1':loop B10_2 (ns,true,((k + 1:Nat):Int),Int.ofNat 0,Int.ofNat 0,[],[],()) = some (w,rv,()):=h1
 rw [h1',Option.bind_some]
end Go.Vx.Z
namespace Go.Vx.Z
open _root_.Int (ofNat toNat)
open IntKind (wrap)
open _root_.ByteArray (size)
open _root_.List (length)
open _root_.Sum (inl inr elim)
open Go Go.Vx Go.Proofs
set_option linter.unusedVariables false
set_option maxRecDepth 1000000
set_option maxHeartbeats 4000000
theorem F33_eq (x0 x1 x2 x3 x4:ByteArray) (x5 x6 x7:Int) (x8:ByteArray):F33 (x0,x1,x2,x3,x4,x5,x6,x7,x8,()) =
 bif bl x3 == [] then some (false,()) else Option.bind (F62 (x3,())) fun r => bif !r.2.2.1 == ofNat 0 then some (true,()) else Option.bind (F63 (r.1,x5,x6,x7,x8,())) fun r => some (!r.1,()):=by kernel_rfl
theorem B12_0_eq (x0:ByteArray) (x1:List R7) (x2 x3:Int) (x4:List R2) (x5:List R3) (x6:List R6) (x7:List R10):B12_0 (x0,x1,x2,x3,x4,x5,x6,x7,()) =
 bif decide (x3 < x2) then bif decide (ofNat 0 ≤ x3) then Option.bind x1[toNat x3]? fun y => Option.bind (F31 (x4,x5,y.1,y.2.1,y.2.2.1,y.2.2.2.1,y.2.2.2.2.1,())) fun r => Option.bind (F32v1 (r.1,x6,())) fun r_1 => bif !r.2.2.2.2.2.2.2.2.2.2.1 == ofNat 0 then bif !r.2.2.2.2.2.2.2.2.2.2.1 == ofNat 0 then bif decide (length x7 + length [(r.2.2.2.2.2.2.2.2.2.2.1,y.1,(lit []),ofNat 0,ofNat 0,ofNat 0,(lit []),ofNat 0,ofNat 0,ofNat 0,(lit []),())] ≤ 1172812402961) then some (inl (x0,x1,x2,wrap .i64 (x3 + ofNat 1),x4,x5,r_1.2.2.2.2.2.2.2.2.2.2.2.1,x7 ++ [(r.2.2.2.2.2.2.2.2.2.2.1,y.1,(lit []),ofNat 0,ofNat 0,ofNat 0,(lit []),ofNat 0,ofNat 0,ofNat 0,(lit []),())],())) else none else some (inl (x0,x1,x2,wrap .i64 (x3 + ofNat 1),x4,x5,r_1.2.2.2.2.2.2.2.2.2.2.2.1,x7,())) else Option.bind (F33 (y.1,y.2.1,y.2.2.1,y.2.2.2.1,y.2.2.2.2.1,r.2.1,r.2.2.1,r.2.2.2.1,r.2.2.2.2.1,())) fun r_2 => bif r_2.1 then bif decide (length x7 + length [(ofNat 10,y.1,r.1,r.2.1,r.2.2.1,r.2.2.2.1,r.2.2.2.2.1,ofNat 0,ofNat 0,ofNat 0,(lit []),())] ≤ 1172812402961) then some (inl (x0,x1,x2,wrap .i64 (x3 + ofNat 1),x4,x5,r_1.2.2.2.2.2.2.2.2.2.2.2.1,x7 ++ [(ofNat 10,y.1,r.1,r.2.1,r.2.2.1,r.2.2.2.1,r.2.2.2.2.1,ofNat 0,ofNat 0,ofNat 0,(lit []),())],())) else none else bif bl r.1 == bl x0 then bif decide (length x7 + length [(ofNat 11,y.1,r.1,r.2.1,r.2.2.1,r.2.2.2.1,r.2.2.2.2.1,ofNat 0,ofNat 0,ofNat 0,(lit []),())] ≤ 1172812402961) then some (inl (x0,x1,x2,wrap .i64 (x3 + ofNat 1),x4,x5,r_1.2.2.2.2.2.2.2.2.2.2.2.1,x7 ++ [(ofNat 11,y.1,r.1,r.2.1,r.2.2.1,r.2.2.2.1,r.2.2.2.2.1,ofNat 0,ofNat 0,ofNat 0,(lit []),())],())) else none else bif r_1.2.2.2.2.2.2.2.2.2.2.1 then bif !(bl r_1.1 == bl r.1 && (r_1.2.1 == r.2.1 && (r_1.2.2.1 == r.2.2.1 && (r_1.2.2.2.1 == r.2.2.2.1 && bl r_1.2.2.2.2.1 == bl r.2.2.2.2.1)) && (bl r_1.2.2.2.2.2.1 == bl r.2.2.2.2.2.1 && (r_1.2.2.2.2.2.2.1 == r.2.2.2.2.2.2.1 && (r_1.2.2.2.2.2.2.2.1 == r.2.2.2.2.2.2.2.1 && (r_1.2.2.2.2.2.2.2.2.1 == r.2.2.2.2.2.2.2.2.1 && bl r_1.2.2.2.2.2.2.2.2.2.1 == bl r.2.2.2.2.2.2.2.2.2.1)))))) then bif decide (length x7 + length [(ofNat 11,y.1,r.1,r.2.1,r.2.2.1,r.2.2.2.1,r.2.2.2.2.1,r_1.2.1,r_1.2.2.1,r_1.2.2.2.1,r_1.2.2.2.2.1,())] ≤ 1172812402961) then some (inl (x0,x1,x2,wrap .i64 (x3 + ofNat 1),x4,x5,r_1.2.2.2.2.2.2.2.2.2.2.2.1,x7 ++ [(ofNat 11,y.1,r.1,r.2.1,r.2.2.1,r.2.2.2.1,r.2.2.2.2.1,r_1.2.1,r_1.2.2.1,r_1.2.2.2.1,r_1.2.2.2.2.1,())],())) else none else bif !r_1.2.2.2.2.2.2.2.2.2.2.1 then bif decide (length r_1.2.2.2.2.2.2.2.2.2.2.2.1 + length [(r.1,r.2.1,r.2.2.1,r.2.2.2.1,r.2.2.2.2.1,r.2.2.2.2.2.1,r.2.2.2.2.2.2.1,r.2.2.2.2.2.2.2.1,r.2.2.2.2.2.2.2.2.1,r.2.2.2.2.2.2.2.2.2.1,())] ≤ 1256584717458) then bif !r.2.2.2.2.2.2.2.2.2.2.1 == ofNat 0 then bif decide (length x7 + length [(r.2.2.2.2.2.2.2.2.2.2.1,y.1,r.1,r.2.1,r.2.2.1,r.2.2.2.1,r.2.2.2.2.1,ofNat 0,ofNat 0,ofNat 0,(lit []),())] ≤ 1172812402961) then some (inl (x0,x1,x2,wrap .i64 (x3 + ofNat 1),x4,x5,r_1.2.2.2.2.2.2.2.2.2.2.2.1 ++ [(r.1,r.2.1,r.2.2.1,r.2.2.2.1,r.2.2.2.2.1,r.2.2.2.2.2.1,r.2.2.2.2.2.2.1,r.2.2.2.2.2.2.2.1,r.2.2.2.2.2.2.2.2.1,r.2.2.2.2.2.2.2.2.2.1,())],x7 ++ [(r.2.2.2.2.2.2.2.2.2.2.1,y.1,r.1,r.2.1,r.2.2.1,r.2.2.2.1,r.2.2.2.2.1,ofNat 0,ofNat 0,ofNat 0,(lit []),())],())) else none else some (inl (x0,x1,x2,wrap .i64 (x3 + ofNat 1),x4,x5,r_1.2.2.2.2.2.2.2.2.2.2.2.1 ++ [(r.1,r.2.1,r.2.2.1,r.2.2.2.1,r.2.2.2.2.1,r.2.2.2.2.2.1,r.2.2.2.2.2.2.1,r.2.2.2.2.2.2.2.1,r.2.2.2.2.2.2.2.2.1,r.2.2.2.2.2.2.2.2.2.1,())],x7,())) else none else bif !r.2.2.2.2.2.2.2.2.2.2.1 == ofNat 0 then bif decide (length x7 + length [(r.2.2.2.2.2.2.2.2.2.2.1,y.1,r.1,r.2.1,r.2.2.1,r.2.2.2.1,r.2.2.2.2.1,ofNat 0,ofNat 0,ofNat 0,(lit []),())] ≤ 1172812402961) then some (inl (x0,x1,x2,wrap .i64 (x3 + ofNat 1),x4,x5,r_1.2.2.2.2.2.2.2.2.2.2.2.1,x7 ++ [(r.2.2.2.2.2.2.2.2.2.2.1,y.1,r.1,r.2.1,r.2.2.1,r.2.2.2.1,r.2.2.2.2.1,ofNat 0,ofNat 0,ofNat 0,(lit []),())],())) else none else some (inl (x0,x1,x2,wrap .i64 (x3 + ofNat 1),x4,x5,r_1.2.2.2.2.2.2.2.2.2.2.2.1,x7,())) else bif !r_1.2.2.2.2.2.2.2.2.2.2.1 then bif decide (length r_1.2.2.2.2.2.2.2.2.2.2.2.1 + length [(r.1,r.2.1,r.2.2.1,r.2.2.2.1,r.2.2.2.2.1,r.2.2.2.2.2.1,r.2.2.2.2.2.2.1,r.2.2.2.2.2.2.2.1,r.2.2.2.2.2.2.2.2.1,r.2.2.2.2.2.2.2.2.2.1,())] ≤ 1256584717458) then bif !r.2.2.2.2.2.2.2.2.2.2.1 == ofNat 0 then bif decide (length x7 + length [(r.2.2.2.2.2.2.2.2.2.2.1,y.1,r.1,r.2.1,r.2.2.1,r.2.2.2.1,r.2.2.2.2.1,ofNat 0,ofNat 0,ofNat 0,(lit []),())] ≤ 1172812402961) then some (inl (x0,x1,x2,wrap .i64 (x3 + ofNat 1),x4,x5,r_1.2.2.2.2.2.2.2.2.2.2.2.1 ++ [(r.1,r.2.1,r.2.2.1,r.2.2.2.1,r.2.2.2.2.1,r.2.2.2.2.2.1,r.2.2.2.2.2.2.1,r.2.2.2.2.2.2.2.1,r.2.2.2.2.2.2.2.2.1,r.2.2.2.2.2.2.2.2.2.1,())],x7 ++ [(r.2.2.2.2.2.2.2.2.2.2.1,y.1,r.1,r.2.1,r.2.2.1,r.2.2.2.1,r.2.2.2.2.1,ofNat 0,ofNat 0,ofNat 0,(lit []),())],())) else none else some (inl (x0,x1,x2,wrap .i64 (x3 + ofNat 1),x4,x5,r_1.2.2.2.2.2.2.2.2.2.2.2.1 ++ [(r.1,r.2.1,r.2.2.1,r.2.2.2.1,r.2.2.2.2.1,r.2.2.2.2.2.1,r.2.2.2.2.2.2.1,r.2.2.2.2.2.2.2.1,r.2.2.2.2.2.2.2.2.1,r.2.2.2.2.2.2.2.2.2.1,())],x7,())) else none else bif !r.2.2.2.2.2.2.2.2.2.2.1 == ofNat 0 then bif decide (length x7 + length [(r.2.2.2.2.2.2.2.2.2.2.1,y.1,r.1,r.2.1,r.2.2.1,r.2.2.2.1,r.2.2.2.2.1,ofNat 0,ofNat 0,ofNat 0,(lit []),())] ≤ 1172812402961) then some (inl (x0,x1,x2,wrap .i64 (x3 + ofNat 1),x4,x5,r_1.2.2.2.2.2.2.2.2.2.2.2.1,x7 ++ [(r.2.2.2.2.2.2.2.2.2.2.1,y.1,r.1,r.2.1,r.2.2.1,r.2.2.2.1,r.2.2.2.2.1,ofNat 0,ofNat 0,ofNat 0,(lit []),())],())) else none else some (inl (x0,x1,x2,wrap .i64 (x3 + ofNat 1),x4,x5,r_1.2.2.2.2.2.2.2.2.2.2.2.1,x7,())) else none else some (inr (x6,x7,())):=by kernel_rfl
theorem F12_eq (x0:List R2) (x1:List R3) (x2:ByteArray) (x3:List R7):F12 (x0,x1,x2,x3,()) =
 Option.bind (loop B12_0 (x2,x3,ofNat (length x3),ofNat 0,x0,x1,[],[],())) fun r => Option.bind (F34 (r.1,())) fun r_1 => Option.bind (F37 (r_1.1,())) fun r_2 => Option.bind (F38 (r.2.1,())) fun r => some (r_2.1,r.1,()):=by kernel_rfl
theorem B12v1_0_eq (x0:ByteArray) (x1 x2:Int) (x3:List R7) (x4:List R2) (x5:List R3) (x6:List R6) (x7:List R10):B12v1_0 (x0,x1,x2,x3,x4,x5,x6,x7,()) =
 bif decide (x2 < x1) then bif decide (ofNat 0 ≤ x2) && decide (x2 < ofNat (length x3)) then Option.bind x3[toNat x2]? fun y => Option.bind (F31 (x4,x5,y.1,y.2.1,y.2.2.1,y.2.2.2.1,y.2.2.2.2.1,())) fun r => Option.bind (F32v1 (r.1,x6,())) fun r_1 => bif !r.2.2.2.2.2.2.2.2.2.2.1 == ofNat 0 then bif !r.2.2.2.2.2.2.2.2.2.2.1 == ofNat 0 then bif decide (length x7 + length [(r.2.2.2.2.2.2.2.2.2.2.1,y.1,(lit []),ofNat 0,ofNat 0,ofNat 0,(lit []),ofNat 0,ofNat 0,ofNat 0,(lit []),())] ≤ 1172812402961) then some (inl (x0,x1,wrap .i64 (x2 + ofNat 1),x3,x4,x5,r_1.2.2.2.2.2.2.2.2.2.2.2.1,x7 ++ [(r.2.2.2.2.2.2.2.2.2.2.1,y.1,(lit []),ofNat 0,ofNat 0,ofNat 0,(lit []),ofNat 0,ofNat 0,ofNat 0,(lit []),())],())) else none else some (inl (x0,x1,wrap .i64 (x2 + ofNat 1),x3,x4,x5,r_1.2.2.2.2.2.2.2.2.2.2.2.1,x7,())) else Option.bind (F33 (y.1,y.2.1,y.2.2.1,y.2.2.2.1,y.2.2.2.2.1,r.2.1,r.2.2.1,r.2.2.2.1,r.2.2.2.2.1,())) fun r_2 => bif r_2.1 then bif decide (length x7 + length [(ofNat 10,y.1,r.1,r.2.1,r.2.2.1,r.2.2.2.1,r.2.2.2.2.1,ofNat 0,ofNat 0,ofNat 0,(lit []),())] ≤ 1172812402961) then some (inl (x0,x1,wrap .i64 (x2 + ofNat 1),x3,x4,x5,r_1.2.2.2.2.2.2.2.2.2.2.2.1,x7 ++ [(ofNat 10,y.1,r.1,r.2.1,r.2.2.1,r.2.2.2.1,r.2.2.2.2.1,ofNat 0,ofNat 0,ofNat 0,(lit []),())],())) else none else bif bl r.1 == bl x0 then bif decide (length x7 + length [(ofNat 11,y.1,r.1,r.2.1,r.2.2.1,r.2.2.2.1,r.2.2.2.2.1,ofNat 0,ofNat 0,ofNat 0,(lit []),())] ≤ 1172812402961) then some (inl (x0,x1,wrap .i64 (x2 + ofNat 1),x3,x4,x5,r_1.2.2.2.2.2.2.2.2.2.2.2.1,x7 ++ [(ofNat 11,y.1,r.1,r.2.1,r.2.2.1,r.2.2.2.1,r.2.2.2.2.1,ofNat 0,ofNat 0,ofNat 0,(lit []),())],())) else none else bif r_1.2.2.2.2.2.2.2.2.2.2.1 then bif !(bl r_1.1 == bl r.1 && (r_1.2.1 == r.2.1 && (r_1.2.2.1 == r.2.2.1 && (r_1.2.2.2.1 == r.2.2.2.1 && bl r_1.2.2.2.2.1 == bl r.2.2.2.2.1)) && (bl r_1.2.2.2.2.2.1 == bl r.2.2.2.2.2.1 && (r_1.2.2.2.2.2.2.1 == r.2.2.2.2.2.2.1 && (r_1.2.2.2.2.2.2.2.1 == r.2.2.2.2.2.2.2.1 && (r_1.2.2.2.2.2.2.2.2.1 == r.2.2.2.2.2.2.2.2.1 && bl r_1.2.2.2.2.2.2.2.2.2.1 == bl r.2.2.2.2.2.2.2.2.2.1)))))) then bif decide (length x7 + length [(ofNat 11,y.1,r.1,r.2.1,r.2.2.1,r.2.2.2.1,r.2.2.2.2.1,r_1.2.1,r_1.2.2.1,r_1.2.2.2.1,r_1.2.2.2.2.1,())] ≤ 1172812402961) then some (inl (x0,x1,wrap .i64 (x2 + ofNat 1),x3,x4,x5,r_1.2.2.2.2.2.2.2.2.2.2.2.1,x7 ++ [(ofNat 11,y.1,r.1,r.2.1,r.2.2.1,r.2.2.2.1,r.2.2.2.2.1,r_1.2.1,r_1.2.2.1,r_1.2.2.2.1,r_1.2.2.2.2.1,())],())) else none else bif !r_1.2.2.2.2.2.2.2.2.2.2.1 then bif decide (length r_1.2.2.2.2.2.2.2.2.2.2.2.1 + length [(r.1,r.2.1,r.2.2.1,r.2.2.2.1,r.2.2.2.2.1,r.2.2.2.2.2.1,r.2.2.2.2.2.2.1,r.2.2.2.2.2.2.2.1,r.2.2.2.2.2.2.2.2.1,r.2.2.2.2.2.2.2.2.2.1,())] ≤ 1256584717458) then bif !r.2.2.2.2.2.2.2.2.2.2.1 == ofNat 0 then bif decide (length x7 + length [(r.2.2.2.2.2.2.2.2.2.2.1,y.1,r.1,r.2.1,r.2.2.1,r.2.2.2.1,r.2.2.2.2.1,ofNat 0,ofNat 0,ofNat 0,(lit []),())] ≤ 1172812402961) then some (inl (x0,x1,wrap .i64 (x2 + ofNat 1),x3,x4,x5,r_1.2.2.2.2.2.2.2.2.2.2.2.1 ++ [(r.1,r.2.1,r.2.2.1,r.2.2.2.1,r.2.2.2.2.1,r.2.2.2.2.2.1,r.2.2.2.2.2.2.1,r.2.2.2.2.2.2.2.1,r.2.2.2.2.2.2.2.2.1,r.2.2.2.2.2.2.2.2.2.1,())],x7 ++ [(r.2.2.2.2.2.2.2.2.2.2.1,y.1,r.1,r.2.1,r.2.2.1,r.2.2.2.1,r.2.2.2.2.1,ofNat 0,ofNat 0,ofNat 0,(lit []),())],())) else none else some (inl (x0,x1,wrap .i64 (x2 + ofNat 1),x3,x4,x5,r_1.2.2.2.2.2.2.2.2.2.2.2.1 ++ [(r.1,r.2.1,r.2.2.1,r.2.2.2.1,r.2.2.2.2.1,r.2.2.2.2.2.1,r.2.2.2.2.2.2.1,r.2.2.2.2.2.2.2.1,r.2.2.2.2.2.2.2.2.1,r.2.2.2.2.2.2.2.2.2.1,())],x7,())) else none else bif !r.2.2.2.2.2.2.2.2.2.2.1 == ofNat 0 then bif decide (length x7 + length [(r.2.2.2.2.2.2.2.2.2.2.1,y.1,r.1,r.2.1,r.2.2.1,r.2.2.2.1,r.2.2.2.2.1,ofNat 0,ofNat 0,ofNat 0,(lit []),())] ≤ 1172812402961) then some (inl (x0,x1,wrap .i64 (x2 + ofNat 1),x3,x4,x5,r_1.2.2.2.2.2.2.2.2.2.2.2.1,x7 ++ [(r.2.2.2.2.2.2.2.2.2.2.1,y.1,r.1,r.2.1,r.2.2.1,r.2.2.2.1,r.2.2.2.2.1,ofNat 0,ofNat 0,ofNat 0,(lit []),())],())) else none else some (inl (x0,x1,wrap .i64 (x2 + ofNat 1),x3,x4,x5,r_1.2.2.2.2.2.2.2.2.2.2.2.1,x7,())) else bif !r_1.2.2.2.2.2.2.2.2.2.2.1 then bif decide (length r_1.2.2.2.2.2.2.2.2.2.2.2.1 + length [(r.1,r.2.1,r.2.2.1,r.2.2.2.1,r.2.2.2.2.1,r.2.2.2.2.2.1,r.2.2.2.2.2.2.1,r.2.2.2.2.2.2.2.1,r.2.2.2.2.2.2.2.2.1,r.2.2.2.2.2.2.2.2.2.1,())] ≤ 1256584717458) then bif !r.2.2.2.2.2.2.2.2.2.2.1 == ofNat 0 then bif decide (length x7 + length [(r.2.2.2.2.2.2.2.2.2.2.1,y.1,r.1,r.2.1,r.2.2.1,r.2.2.2.1,r.2.2.2.2.1,ofNat 0,ofNat 0,ofNat 0,(lit []),())] ≤ 1172812402961) then some (inl (x0,x1,wrap .i64 (x2 + ofNat 1),x3,x4,x5,r_1.2.2.2.2.2.2.2.2.2.2.2.1 ++ [(r.1,r.2.1,r.2.2.1,r.2.2.2.1,r.2.2.2.2.1,r.2.2.2.2.2.1,r.2.2.2.2.2.2.1,r.2.2.2.2.2.2.2.1,r.2.2.2.2.2.2.2.2.1,r.2.2.2.2.2.2.2.2.2.1,())],x7 ++ [(r.2.2.2.2.2.2.2.2.2.2.1,y.1,r.1,r.2.1,r.2.2.1,r.2.2.2.1,r.2.2.2.2.1,ofNat 0,ofNat 0,ofNat 0,(lit []),())],())) else none else some (inl (x0,x1,wrap .i64 (x2 + ofNat 1),x3,x4,x5,r_1.2.2.2.2.2.2.2.2.2.2.2.1 ++ [(r.1,r.2.1,r.2.2.1,r.2.2.2.1,r.2.2.2.2.1,r.2.2.2.2.2.1,r.2.2.2.2.2.2.1,r.2.2.2.2.2.2.2.1,r.2.2.2.2.2.2.2.2.1,r.2.2.2.2.2.2.2.2.2.1,())],x7,())) else none else bif !r.2.2.2.2.2.2.2.2.2.2.1 == ofNat 0 then bif decide (length x7 + length [(r.2.2.2.2.2.2.2.2.2.2.1,y.1,r.1,r.2.1,r.2.2.1,r.2.2.2.1,r.2.2.2.2.1,ofNat 0,ofNat 0,ofNat 0,(lit []),())] ≤ 1172812402961) then some (inl (x0,x1,wrap .i64 (x2 + ofNat 1),x3,x4,x5,r_1.2.2.2.2.2.2.2.2.2.2.2.1,x7 ++ [(r.2.2.2.2.2.2.2.2.2.2.1,y.1,r.1,r.2.1,r.2.2.1,r.2.2.2.1,r.2.2.2.2.1,ofNat 0,ofNat 0,ofNat 0,(lit []),())],())) else none else some (inl (x0,x1,wrap .i64 (x2 + ofNat 1),x3,x4,x5,r_1.2.2.2.2.2.2.2.2.2.2.2.1,x7,())) else none else some (inr (x3,x6,x7,())):=by kernel_rfl
theorem F12v1_eq (x0:List R2) (x1:List R3) (x2:ByteArray) (x3:List R7):F12v1 (x0,x1,x2,x3,()) =
 Option.bind (loop B12v1_0 (x2,ofNat (length x3),ofNat 0,x3,x0,x1,[],[],())) fun r => Option.bind (F34 (r.2.1,())) fun r_1 => Option.bind (F37 (r_1.1,())) fun r_2 => Option.bind (F38 (r.2.2.1,())) fun r_3 => some (r_2.1,r_3.1,r.1,()):=by kernel_rfl
end Go.Vx.Z
