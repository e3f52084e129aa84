import Derived.Test.YtjkfdmdnpkblfaaGreatDoorV5
import Derived.KernelRfl
import Derived.Test.YtjkfdmdnpkblfaaGreatDoorV3
set_option linter.unusedSimpArgs false
namespace Go.Vx.Z
noncomputable section
open _root_.Int (ofNat toNat)
open IntKind (wrap)
open _root_.ByteArray (size)
open _root_.List (length)
open _root_.Sum (inl inr elim)
open Go Go.Vx Go.Proofs
set_option linter.unusedVariables false
set_option maxRecDepth 1000000
set_option maxHeartbeats 4000000
def PB78_0:Int × List Int × Int × Int × Unit → Option ((Int × List Int × Int × Int × Unit) ⊕ (Int × Unit) ⊕ (Int × Unit)):=fun (x0,x1,x2,x3,_) =>
 bif decide (x3 < x2) then bif decide (ofNat 0 ≤ x3) then Option.bind x1[toNat x3]? fun y => bif !y == x0 then some (inr (inl (y,()))) else some (inl (x0,x1,x2,wrap .i64 (x3 + ofNat 1),())) else none else some (inr (inr (x0,())))
theorem PB78_0_ok:B78_0 = PB78_0:=by
 funext p
 obtain ⟨x0,x1,x2,x3,⟨⟩⟩:=p
 unfold PB78_0
 kernel_rfl
def PF78:List Int × Unit → Option (Int × Unit):=fun (x0,_) =>
 Option.bind (loop PB78_0 (ofNat 0,x0,ofNat (length x0),ofNat 0,())) fun r => elim (fun p => some (p.1,())) (fun p => some (p.1,())) r
theorem PF78_ok:F78 = PF78:=by
 funext p
 obtain ⟨x0,⟨⟩⟩:=p
 unfold PF78
 rw [← PB78_0_ok]
 kernel_rfl
def PF134:Int × Unit → Option (Bool × Unit):=fun (x0,_) =>
 some (!x0 == x0,())
theorem PF134_ok:F134 = PF134:=by
 funext p
 obtain ⟨x0,⟨⟩⟩:=p
 unfold PF134
 kernel_rfl
def PF79:Int × Int × Unit → Option (Int × Unit):=fun (x0,x1,_) =>
 Option.bind (PF134 (x0,())) fun r => Option.bind (PF134 (x1,())) fun r_1 => bif r.1 then bif r_1.1 then some (ofNat 0,()) else some (Int.negSucc 0,()) else bif r_1.1 then some (ofNat 1,()) else bif decide (x0 < x1) then some (Int.negSucc 0,()) else bif decide (x0 > x1) then some (ofNat 1,()) else some (ofNat 0,())
theorem PF79_ok:F79 = PF79:=by
 funext p
 obtain ⟨x0,x1,⟨⟩⟩:=p
 unfold PF79
 rw [← PF134_ok]
 kernel_rfl
def PF238:ByteArray × Unit → Option (Bool × Unit):=fun (x0,_) =>
 some (!bl x0 == bl x0,())
theorem PF238_ok:F238 = PF238:=by
 funext p
 obtain ⟨x0,⟨⟩⟩:=p
 unfold PF238
 kernel_rfl
def PF189:ByteArray × ByteArray × Unit → Option (Int × Unit):=fun (x0,x1,_) =>
 Option.bind (PF238 (x0,())) fun r => Option.bind (PF238 (x1,())) fun r_1 => bif r.1 then bif r_1.1 then some (ofNat 0,()) else some (Int.negSucc 0,()) else bif r_1.1 then some (ofNat 1,()) else bif Op.bytesLess (bl x0) (bl x1) then some (Int.negSucc 0,()) else bif !(Op.bytesLess (bl x0) (bl x1) || bl x0 == bl x1) then some (ofNat 1,()) else some (ofNat 0,())
theorem PF189_ok:F189 = PF189:=by
 funext p
 obtain ⟨x0,x1,⟨⟩⟩:=p
 unfold PF189
 rw [← PF238_ok]
 kernel_rfl
def PF137:ByteArray × ByteArray × Unit → Option (Int × Unit):=fun (x0,x1,_) =>
 Option.bind (PF188 (x0,())) fun r => Option.bind (PF188 (x1,())) fun r_1 => bif r.1 then bif r_1.1 then Option.bind (PF79 (ofNat (size x0),ofNat (size x1),())) fun r => Option.bind (PF189 (x0,x1,())) fun r_2 => Option.bind (PF78 ([r.1,r_2.1],())) fun r => some (r.1,()) else bif r.1 then some (Int.negSucc 0,()) else bif r_1.1 then some (ofNat 1,()) else Option.bind (PF189 (x0,x1,())) fun r => some (r.1,()) else bif r.1 then some (Int.negSucc 0,()) else bif r_1.1 then some (ofNat 1,()) else Option.bind (PF189 (x0,x1,())) fun r => some (r.1,())
theorem PF137_ok:F137 = PF137:=by
 funext p
 obtain ⟨x0,x1,⟨⟩⟩:=p
 unfold PF137
 rw [← PF188_ok,← PF189_ok,← PF78_ok,← PF79_ok]
 kernel_rfl
def PB135_0:List ByteArray × List ByteArray × List ByteArray × Int × Int × Unit → Option ((List ByteArray × List ByteArray × List ByteArray × Int × Int × Unit) ⊕ (Int × Unit) ⊕ (List ByteArray × List ByteArray × Unit)):=fun (x0,x1,x2,x3,x4,_) =>
 bif decide (x4 < x3) then bif decide (ofNat 0 ≤ x4) then Option.bind x2[toNat x4]? fun y => bif decide (x4 ≥ ofNat (length x1)) then some (inr (inl (ofNat 1,()))) else bif decide (ofNat 0 ≤ x4) then Option.bind x1[toNat x4]? fun y_1 => Option.bind (PF137 (y,y_1,())) fun r => bif !r.1 == ofNat 0 then some (inr (inl (r.1,()))) else some (inl (x0,x1,x2,x3,wrap .i64 (x4 + ofNat 1),())) else none else none else some (inr (inr (x0,x1,())))
theorem PB135_0_ok:B135_0 = PB135_0:=by
 funext p
 obtain ⟨x0,x1,x2,x3,x4,⟨⟩⟩:=p
 unfold PB135_0
 rw [← PF137_ok]
 kernel_rfl
def PF135:List ByteArray × List ByteArray × Unit → Option (Int × Unit):=fun (x0,x1,_) =>
 Option.bind (loop PB135_0 (x0,x1,x0,ofNat (length x0),ofNat 0,())) fun r => elim (fun p => some (p.1,())) (fun p => bif decide (ofNat (length p.1) < ofNat (length p.2.1)) then some (Int.negSucc 0,()) else some (ofNat 0,())) r
theorem PF135_ok:F135 = PF135:=by
 funext p
 obtain ⟨x0,x1,⟨⟩⟩:=p
 unfold PF135
 rw [← PB135_0_ok]
 kernel_rfl
def PF80:ByteArray × ByteArray × Unit → Option (Int × Unit):=fun (x0,x1,_) =>
 bif bl x0 == bl x1 then some (ofNat 0,()) else bif bl x0 == [] then some (ofNat 1,()) else bif bl x1 == [] then some (Int.negSucc 0,()) else Option.bind (PF136 (x0,(lit [46]),())) fun r => Option.bind (PF136 (x1,(lit [46]),())) fun r_1 => Option.bind (PF135 (r.1,r_1.1,())) fun r => some (r.1,())
theorem PF80_ok:F80 = PF80:=by
 funext p
 obtain ⟨x0,x1,⟨⟩⟩:=p
 unfold PF80
 rw [← PF135_ok,← PF136_ok]
 kernel_rfl
def PF45:Int × Int × Int × ByteArray × Int × Int × Int × ByteArray × Unit → Option (Int × Unit):=fun (x0,x1,x2,x3,x4,x5,x6,x7,_) =>
 Option.bind (PF79 (x0,x4,())) fun r => Option.bind (PF79 (x1,x5,())) fun r_1 => Option.bind (PF79 (x2,x6,())) fun r_2 => Option.bind (PF80 (x3,x7,())) fun r_3 => Option.bind (PF78 ([r.1,r_1.1,r_2.1,r_3.1],())) fun r => some (r.1,())
theorem PF45_ok:F45 = PF45:=by
 funext p
 obtain ⟨x0,x1,x2,x3,x4,x5,x6,x7,⟨⟩⟩:=p
 unfold PF45
 rw [← PF78_ok,← PF79_ok,← PF80_ok]
 kernel_rfl
def PF59:ByteArray × Unit → Option (ByteArray × Int × Unit):=fun (x0,_) =>
 Option.bind (PF88 (x0,())) fun r => Option.bind (PF89 (r.2.1,())) fun r_1 => some (r_1.1,r.2.2.1,())
theorem PF59_ok:F59 = PF59:=by
 funext p
 obtain ⟨x0,⟨⟩⟩:=p
 unfold PF59
 rw [← PF88_ok,← PF89_ok]
 kernel_rfl
def PF152:ByteArray × ByteArray × Int × Int × Int × Int × ByteArray × Unit → Option (Bool × Unit):=fun (x0,x1,x2,x3,x4,x5,x6,_) =>
 bif x3 == x2 then some (true,()) else bif x2 == ofNat 0 then some (x3 == ofNat 1,()) else some (false,())
theorem PF152_ok:F152 = PF152:=by
 funext p
 obtain ⟨x0,x1,x2,x3,x4,x5,x6,⟨⟩⟩:=p
 unfold PF152
 kernel_rfl
def PF93:ByteArray × Int × Int × Int × ByteArray × Unit → Option (Bool × Unit):=fun (x0,x1,x2,x3,x4,_) =>
 Option.bind (PF88 (x0,())) fun r => Option.bind (PF152 (r.1,r.2.1,r.2.2.1,x1,x2,x3,x4,())) fun r => some (r.1,())
theorem PF93_ok:F93 = PF93:=by
 funext p
 obtain ⟨x0,x1,x2,x3,x4,⟨⟩⟩:=p
 unfold PF93
 rw [← PF152_ok,← PF88_ok]
 kernel_rfl
def PF95:ByteArray × Unit → Option (ByteArray × Int × Unit):=fun (x0,_) =>
 some (x0,ofNat 0,())
theorem PF95_ok:F95 = PF95:=by
 funext p
 obtain ⟨x0,⟨⟩⟩:=p
 unfold PF95
 kernel_rfl
def PF204:Unit → Option (Int × Int × Int × ByteArray × Unit):=fun (_) =>
 some (ofNat 0,ofNat 0,ofNat 0,(lit [48]),())
theorem PF204_ok:F204 = PF204:=by
 funext p
 unfold PF204
 kernel_rfl
def PF154:Unit → Option (List R8 × Unit):=fun (_) =>
 Option.bind (PF204 ()) fun r => some ([(r.1,r.2.1,r.2.2.1,r.2.2.2.1,ofNat 0,ofNat 0,ofNat 0,(lit []),false,false,true,())],())
theorem PF154_ok:F154 = PF154:=by
 funext p
 unfold PF154
 rw [← PF204_ok]
 kernel_rfl
def PF278:ByteArray × Int × Unit → Option (Int × Bool × ByteArray × Int × Unit):=fun (x0,x1,_) =>
 bif decide (x1 ≥ ofNat (size x0)) then some (ofNat 0,false,x0,x1,()) else bif decide (ofNat 0 ≤ x1) && decide (x1 < ofNat (size x0)) then some (bt x0 x1,true,x0,x1,()) else none
theorem PF278_ok:F278 = PF278:=by
 funext p
 obtain ⟨x0,x1,⟨⟩⟩:=p
 unfold PF278
 kernel_rfl
def PB244_0:ByteArray × Int × Int × Bool × ByteArray × Int × Unit → Option ((ByteArray × Int × Int × Bool × ByteArray × Int × Unit) ⊕ Int × ByteArray × Int × Unit):=fun (x0,x1,x2,x3,x4,x5,_) =>
 bif x3 then Option.bind (PF241 (x0,x2,())) fun r => bif decide (r.1 ≥ ofNat 0) then Option.bind (PF278 (x4,wrap .i64 (x5 + ofNat 1),())) fun r => some (inl (x0,x1,r.1,r.2.1,r.2.2.1,r.2.2.2.1,())) else some (inr (x1,x4,x5,())) else some (inr (x1,x4,x5,()))
theorem PB244_0_ok:B244_0 = PB244_0:=by
 funext p
 obtain ⟨x0,x1,x2,x3,x4,x5,⟨⟩⟩:=p
 unfold PB244_0
 rw [← PF241_ok,← PF278_ok]
 kernel_rfl
def PF244:ByteArray × ByteArray × Int × Unit → Option (ByteArray × ByteArray × Int × Unit):=fun (x0,x1,x2,_) =>
 Option.bind (PF278 (x1,x2,())) fun r => Option.bind (loop PB244_0 (x0,x2,r.1,r.2.1,r.2.2.1,r.2.2.2.1,())) fun r => bif decide (ofNat 0 ≤ r.1) && (decide (r.1 ≤ r.2.2.1) && decide (r.2.2.1 ≤ ofNat (size r.2.1))) then Option.bind (PF89 (ByteArray.extract r.2.1 (toNat r.1) (toNat r.2.2.1),())) fun r_1 => some (r_1.1,r.2.1,r.2.2.1,()) else none
theorem PF244_ok:F244 = PF244:=by
 funext p
 obtain ⟨x0,x1,x2,⟨⟩⟩:=p
 unfold PF244
 rw [← PB244_0_ok,← PF278_ok,← PF89_ok]
 kernel_rfl
def PF205:ByteArray × ByteArray × Int × ByteArray × Int × Unit → Option (ByteArray × ByteArray × Int × ByteArray × Int × Unit):=fun (x0,x1,x2,x3,x4,_) =>
 Option.bind (PF244 ((lit [32]),x3,x4,())) fun r => some (x0,x1,x2,r.2.1,r.2.2.1,())
theorem PF205_ok:F205 = PF205:=by
 funext p
 obtain ⟨x0,x1,x2,x3,x4,⟨⟩⟩:=p
 unfold PF205
 rw [← PF244_ok]
 kernel_rfl
def PF98:ByteArray × ByteArray × Int × Unit → Option (Bool × ByteArray × Int × Unit):=fun (x0,x1,x2,_) =>
 bif decide (ofNat 0 ≤ x2) && (decide (x2 ≤ ofNat (size x1)) && decide (ofNat (size x1) ≤ ofNat (size x1))) then Option.bind (PF145 (ByteArray.extract x1 (toNat x2) (toNat (ofNat (size x1))),x0,())) fun r => bif !r.1 then some (false,x1,x2,()) else some (true,x1,wrap .i64 (x2 + ofNat (size x0)),()) else none
theorem PF98_ok:F98 = PF98:=by
 funext p
 obtain ⟨x0,x1,x2,⟨⟩⟩:=p
 unfold PF98
 rw [← PF145_ok]
 kernel_rfl
def PF155:ByteArray × ByteArray × Int × ByteArray × Int × Unit → Option (Bool × ByteArray × ByteArray × Int × ByteArray × Int × Unit):=fun (x0,x1,x2,x3,x4,_) =>
 Option.bind (PF205 (x0,x1,x2,x3,x4,())) fun r => bif decide (ofNat 0 ≤ r.2.2.2.2.1) && (decide (r.2.2.2.2.1 ≤ ofNat (size r.1)) && decide (ofNat (size r.1) ≤ ofNat (size r.1))) then Option.bind (FIndexAny (ByteArray.extract r.1 (toNat r.2.2.2.2.1) (toNat (ofNat (size r.1))),(lit [32,124]),())) fun r_1 => bif decide (r_1.1 < ofNat 0) then bif decide (ofNat 0 ≤ r.2.2.2.2.1) && (decide (r.2.2.2.2.1 ≤ wrap .i64 (r.2.2.2.2.1 + wrap .i64 (ofNat (size r.1) - r.2.2.2.2.1))) && decide (wrap .i64 (r.2.2.2.2.1 + wrap .i64 (ofNat (size r.1) - r.2.2.2.2.1)) ≤ ofNat (size r.1))) then Option.bind (PF98 (ByteArray.extract r.1 (toNat r.2.2.2.2.1) (toNat (wrap .i64 (r.2.2.2.2.1 + wrap .i64 (ofNat (size r.1) - r.2.2.2.2.1)))),r.2.2.2.1,r.2.2.2.2.1,())) fun r_2 => bif r_2.1 then some (decide (wrap .i64 (ofNat (size r.1) - r.2.2.2.2.1) > ofNat 0),r.1,ByteArray.extract r.1 (toNat r.2.2.2.2.1) (toNat (wrap .i64 (r.2.2.2.2.1 + wrap .i64 (ofNat (size r.1) - r.2.2.2.2.1)))),r.2.2.2.2.1,r_2.2.1,r_2.2.2.1,()) else some (false,r.1,ByteArray.extract r.1 (toNat r.2.2.2.2.1) (toNat (wrap .i64 (r.2.2.2.2.1 + wrap .i64 (ofNat (size r.1) - r.2.2.2.2.1)))),r.2.2.2.2.1,r_2.2.1,r_2.2.2.1,()) else none else bif decide (ofNat 0 ≤ r.2.2.2.2.1) && (decide (r.2.2.2.2.1 ≤ wrap .i64 (r.2.2.2.2.1 + r_1.1)) && decide (wrap .i64 (r.2.2.2.2.1 + r_1.1) ≤ ofNat (size r.1))) then Option.bind (PF98 (ByteArray.extract r.1 (toNat r.2.2.2.2.1) (toNat (wrap .i64 (r.2.2.2.2.1 + r_1.1))),r.2.2.2.1,r.2.2.2.2.1,())) fun r_2 => bif r_2.1 then some (decide (r_1.1 > ofNat 0),r.1,ByteArray.extract r.1 (toNat r.2.2.2.2.1) (toNat (wrap .i64 (r.2.2.2.2.1 + r_1.1))),r.2.2.2.2.1,r_2.2.1,r_2.2.2.1,()) else some (false,r.1,ByteArray.extract r.1 (toNat r.2.2.2.2.1) (toNat (wrap .i64 (r.2.2.2.2.1 + r_1.1))),r.2.2.2.2.1,r_2.2.1,r_2.2.2.1,()) else none else none
theorem PF155_ok:F155 = PF155:=by
 funext p
 obtain ⟨x0,x1,x2,x3,x4,⟨⟩⟩:=p
 unfold PF155
 rw [← PF205_ok,← PF98_ok]
 kernel_rfl
def PF163:Bool × Unit → Option (Int × Unit):=fun (x0,_) =>
 bif x0 then some (ofNat 1,()) else some (ofNat 0,())
theorem PF163_ok:F163 = PF163:=by
 funext p
 obtain ⟨x0,⟨⟩⟩:=p
 unfold PF163
 kernel_rfl
def PF102:Int × Int × Int × ByteArray × Bool × Bool × Int × Int × Int × ByteArray × Bool × Bool × Unit → Option (Int × Unit):=fun (x0,x1,x2,x3,x4,x5,x6,x7,x8,x9,x10,x11,_) =>
 bif x5 then Option.bind (PF163 (x5,())) fun r => Option.bind (PF163 (x11,())) fun r_1 => some (wrap .i64 (r.1 - r_1.1),()) else bif x11 then Option.bind (PF163 (x5,())) fun r => Option.bind (PF163 (x11,())) fun r_1 => some (wrap .i64 (r.1 - r_1.1),()) else Option.bind (PF45 (x0,x1,x2,x3,x6,x7,x8,x9,())) fun r => Option.bind (PF163 (x4,())) fun r_1 => Option.bind (PF163 (x10,())) fun r_2 => Option.bind (PF78 ([r.1,wrap .i64 (r_1.1 - r_2.1)],())) fun r => some (r.1,())
theorem PF102_ok:F102 = PF102:=by
 funext p
 obtain ⟨x0,x1,x2,x3,x4,x5,x6,x7,x8,x9,x10,x11,⟨⟩⟩:=p
 unfold PF102
 rw [← PF163_ok,← PF45_ok,← PF78_ok]
 kernel_rfl
def PF210:Int × Int × Int × ByteArray × Bool × Bool × Int × Int × Int × ByteArray × Bool × Bool × Unit → Option (Bool × Unit):=fun (x0,x1,x2,x3,x4,x5,x6,x7,x8,x9,x10,x11,_) =>
 Option.bind (PF102 (x0,x1,x2,x3,x4,x5,x6,x7,x8,x9,x10,x11,())) fun r => some (decide (r.1 ≥ ofNat 0),())
theorem PF210_ok:F210 = PF210:=by
 funext p
 obtain ⟨x0,x1,x2,x3,x4,x5,x6,x7,x8,x9,x10,x11,⟨⟩⟩:=p
 unfold PF210
 rw [← PF102_ok]
 kernel_rfl
def PB162_0:Int × Int × List R9 × Unit → Option ((Int × Int × List R9 × Unit) ⊕ (Int × List R9 × Unit) ⊕ (List R9 × Unit)):=fun (x0,x1,x2,_) =>
 bif decide (x1 < x0) then bif decide (ofNat 0 ≤ x1) && decide (x1 < ofNat (length x2)) then Option.bind x2[toNat x1]? fun y => Option.bind (PF210 (y.1,y.2.1,y.2.2.1,y.2.2.2.1,y.2.2.2.2.1,y.2.2.2.2.2.1,y.2.2.2.2.2.2.1,y.2.2.2.2.2.2.2.1,y.2.2.2.2.2.2.2.2.1,y.2.2.2.2.2.2.2.2.2.1,y.2.2.2.2.2.2.2.2.2.2.1,y.2.2.2.2.2.2.2.2.2.2.2.1,())) fun r => bif r.1 then some (inr (inl (x1,x2,()))) else some (inl (x0,wrap .i64 (x1 + ofNat 1),x2,())) else none else some (inr (inr (x2,())))
theorem PB162_0_ok:B162_0 = PB162_0:=by
 funext p
 obtain ⟨x0,x1,x2,⟨⟩⟩:=p
 unfold PB162_0
 rw [← PF210_ok]
 kernel_rfl
def PF162:List R9 × Unit → Option (Int × List R9 × Unit):=fun (x0,_) =>
 Option.bind (loop PB162_0 (ofNat (length x0),ofNat 0,x0,())) fun r => elim (fun p => some (p.1,p.2.1,())) (fun p => some (Int.negSucc 0,p.1,())) r
theorem PF162_ok:F162 = PF162:=by
 funext p
 obtain ⟨x0,⟨⟩⟩:=p
 unfold PF162
 rw [← PB162_0_ok]
 kernel_rfl
def PB209_0:Int × Int × List R9 × Unit → Option ((Int × Int × List R9 × Unit) ⊕ Int × List R9 × Unit):=fun (x0,x1,x2,_) =>
 bif decide (x1 < ofNat (length x2)) then bif decide (ofNat 0 ≤ x1) && decide (x1 < ofNat (length x2)) then Option.bind x2[toNat x1]? fun y => Option.bind (PF210 (y.1,y.2.1,y.2.2.1,y.2.2.2.1,y.2.2.2.2.1,y.2.2.2.2.2.1,y.2.2.2.2.2.2.1,y.2.2.2.2.2.2.2.1,y.2.2.2.2.2.2.2.2.1,y.2.2.2.2.2.2.2.2.2.1,y.2.2.2.2.2.2.2.2.2.2.1,y.2.2.2.2.2.2.2.2.2.2.2.1,())) fun r => bif !r.1 then bif decide (ofNat 0 ≤ x0) && decide (x0 < ofNat (length x2)) then Option.bind x2[toNat x0]? fun y_1 => some (inl (wrap .i64 (x0 + ofNat 1),wrap .i64 (x1 + ofNat 1),List.set x2 (toNat x0) (y.1,y.2.1,y.2.2.1,y.2.2.2.1,y.2.2.2.2.1,y.2.2.2.2.2.1,y.2.2.2.2.2.2.1,y.2.2.2.2.2.2.2.1,y.2.2.2.2.2.2.2.2.1,y.2.2.2.2.2.2.2.2.2.1,y.2.2.2.2.2.2.2.2.2.2.1,y.2.2.2.2.2.2.2.2.2.2.2.1,()),())) else none else some (inl (x0,wrap .i64 (x1 + ofNat 1),x2,())) else none else some (inr (x0,x2,()))
theorem PB209_0_ok:B209_0 = PB209_0:=by
 funext p
 obtain ⟨x0,x1,x2,⟨⟩⟩:=p
 unfold PB209_0
 rw [← PF210_ok]
 kernel_rfl
def PF209:List R9 × Unit → Option (Nat × Nat × List R9 × Unit):=fun (x0,_) =>
 Option.bind (PF162 (x0,())) fun r => bif r.1 == Int.negSucc 0 then some (0,length r.2.1,r.2.1,()) else Option.bind (loop PB209_0 (r.1,wrap .i64 (r.1 + ofNat 1),r.2.1,())) fun r => bif decide (ofNat 0 ≤ r.1) && (decide (r.1 ≤ ofNat (length r.2.1)) && (decide (ofNat (length r.2.1) ≤ ofNat (length r.2.1)) && decide (ofNat (length r.2.1) ≤ ofNat (length r.2.1)))) then bif decide (ofNat 0 ≤ r.1) && (decide (r.1 ≤ ofNat (length (List.take (0 + toNat r.1) r.2.1 ++ List.replicate (0 + toNat (ofNat (length r.2.1)) - (0 + toNat r.1)) (ofNat 0,ofNat 0,ofNat 0,(lit []),false,false,ofNat 0,ofNat 0,ofNat 0,(lit []),false,false,()) ++ List.drop (0 + toNat r.1 + (0 + toNat (ofNat (length r.2.1)) - (0 + toNat r.1))) r.2.1))) && decide (ofNat (length (List.take (0 + toNat r.1) r.2.1 ++ List.replicate (0 + toNat (ofNat (length r.2.1)) - (0 + toNat r.1)) (ofNat 0,ofNat 0,ofNat 0,(lit []),false,false,ofNat 0,ofNat 0,ofNat 0,(lit []),false,false,()) ++ List.drop (0 + toNat r.1 + (0 + toNat (ofNat (length r.2.1)) - (0 + toNat r.1))) r.2.1)) ≤ ofNat (length (List.take (0 + toNat r.1) r.2.1 ++ List.replicate (0 + toNat (ofNat (length r.2.1)) - (0 + toNat r.1)) (ofNat 0,ofNat 0,ofNat 0,(lit []),false,false,ofNat 0,ofNat 0,ofNat 0,(lit []),false,false,()) ++ List.drop (0 + toNat r.1 + (0 + toNat (ofNat (length r.2.1)) - (0 + toNat r.1))) r.2.1)))) then some (0,0 + toNat r.1,List.take (0 + toNat r.1) r.2.1 ++ List.replicate (0 + toNat (ofNat (length r.2.1)) - (0 + toNat r.1)) (ofNat 0,ofNat 0,ofNat 0,(lit []),false,false,ofNat 0,ofNat 0,ofNat 0,(lit []),false,false,()) ++ List.drop (0 + toNat r.1 + (0 + toNat (ofNat (length r.2.1)) - (0 + toNat r.1))) r.2.1,()) else none else none
theorem PF209_ok:F209 = PF209:=by
 funext p
 obtain ⟨x0,⟨⟩⟩:=p
 unfold PF209
 rw [← PB209_0_ok,← PF162_ok]
 kernel_rfl
def PF213:List R8 × Unit → Option (List R8 × Unit):=fun (x0,_) =>
 bif decide (ofNat 0 ≤ ofNat (length x0)) && (decide (ofNat (length x0) ≤ ofNat (length x0)) && decide (ofNat (length x0) ≤ ofNat (length x0))) then some (List.drop 0 (List.take (toNat (ofNat (length x0))) x0),()) else none
theorem PF213_ok:F213 = PF213:=by
 funext p
 obtain ⟨x0,⟨⟩⟩:=p
 unfold PF213
 kernel_rfl
def PF308:ByteArray × ByteArray × Unit → Option (Bool × Unit):=fun (x0,x1,_) =>
 bif decide (ofNat (size x0) ≥ ofNat (size x1)) then bif decide (ofNat 0 ≤ wrap .i64 (ofNat (size x0) - ofNat (size x1))) && (decide (wrap .i64 (ofNat (size x0) - ofNat (size x1)) ≤ ofNat (size x0)) && decide (ofNat (size x0) ≤ ofNat (size x0))) then some (bl (ByteArray.extract x0 (toNat (wrap .i64 (ofNat (size x0) - ofNat (size x1)))) (toNat (ofNat (size x0)))) == bl x1,()) else none else some (false,())
theorem PF308_ok:F308 = PF308:=by
 funext p
 obtain ⟨x0,x1,⟨⟩⟩:=p
 unfold PF308
 kernel_rfl
def PF280:ByteArray × ByteArray × Unit → Option (ByteArray × Bool × Unit):=fun (x0,x1,_) =>
 Option.bind (PF308 (x0,x1,())) fun r => bif !r.1 then some (x0,false,()) else bif decide (ofNat 0 ≤ wrap .i64 (ofNat (size x0) - ofNat (size x1))) && decide (wrap .i64 (ofNat (size x0) - ofNat (size x1)) ≤ ofNat (size x0)) then some (ByteArray.extract x0 0 (toNat (wrap .i64 (ofNat (size x0) - ofNat (size x1)))),true,()) else none
theorem PF280_ok:F280 = PF280:=by
 funext p
 obtain ⟨x0,x1,⟨⟩⟩:=p
 unfold PF280
 rw [← PF308_ok]
 kernel_rfl
def PF249:ByteArray × ByteArray × Unit → Option (ByteArray × Bool × Unit):=fun (x0,x1,_) =>
 Option.bind (PF280 (x0,x1,())) fun r => some (r.1,r.2.1,())
theorem PF249_ok:F249 = PF249:=by
 funext p
 obtain ⟨x0,x1,⟨⟩⟩:=p
 unfold PF249
 rw [← PF280_ok]
 kernel_rfl
def PB250_0:Int × Int × Int × Int × Int × ByteArray × Bool × Bool × Int × Int × Int × Unit → Option ((Int × Int × Int × Int × Int × ByteArray × Bool × Bool × Int × Int × Int × Unit) ⊕ Int × Int × Int × Int × ByteArray × Bool × Bool × Int × Int × Int × Unit):=fun (x0,x1,x2,x3,x4,x5,x6,x7,x8,x9,x10,_) =>
 bif decide (x1 < ofNat 3) then bif x1 == ofNat 0 then some (inl (x0,wrap .i64 (x1 + ofNat 1),x2,x3,x4,x5,x6,x7,ofNat 0,x9,x10,())) else bif x1 == ofNat 1 then some (inl (x0,wrap .i64 (x1 + ofNat 1),x2,x3,x4,x5,x6,x7,x8,ofNat 0,x10,())) else bif x1 == ofNat 2 then some (inl (x0,wrap .i64 (x1 + ofNat 1),x2,x3,x4,x5,x6,x7,x8,x9,ofNat 0,())) else none else some (inr (x0,x2,x3,x4,x5,x6,x7,x8,x9,x10,()))
theorem PB250_0_ok:B250_0 = PB250_0:=by
 funext p
 obtain ⟨x0,x1,x2,x3,x4,x5,x6,x7,x8,x9,x10,⟨⟩⟩:=p
 unfold PB250_0
 kernel_rfl
def PB250_1:Int × Int × Int × Int × ByteArray × Bool × Bool × Int × Int × Int × Unit → Option ((Int × Int × Int × Int × ByteArray × Bool × Bool × Int × Int × Int × Unit) ⊕ (Int × Int × Int × ByteArray × Bool × Bool × Unit) ⊕ (Int × Int × Int × ByteArray × Bool × Bool × Unit)):=fun (x0,x1,x2,x3,x4,x5,x6,x7,x8,x9,_) =>
 bif decide (x0 ≥ ofNat 0) then bif x0 == ofNat 0 then bif decide (x7 < ofNat 999999) then bif x0 == ofNat 0 then bif x0 == ofNat 0 then some (inr (inl (wrap .i64 (x7 + ofNat 1),x8,x9,(lit [48]),false,false,()))) else bif x0 == ofNat 1 then some (inr (inl (x7,wrap .i64 (x7 + ofNat 1),x9,(lit [48]),false,false,()))) else bif x0 == ofNat 2 then some (inr (inl (x7,x8,wrap .i64 (x7 + ofNat 1),(lit [48]),false,false,()))) else none else bif x0 == ofNat 1 then bif x0 == ofNat 0 then some (inr (inl (wrap .i64 (x8 + ofNat 1),x8,x9,(lit [48]),false,false,()))) else bif x0 == ofNat 1 then some (inr (inl (x7,wrap .i64 (x8 + ofNat 1),x9,(lit [48]),false,false,()))) else bif x0 == ofNat 2 then some (inr (inl (x7,x8,wrap .i64 (x8 + ofNat 1),(lit [48]),false,false,()))) else none else bif x0 == ofNat 2 then bif x0 == ofNat 0 then some (inr (inl (wrap .i64 (x9 + ofNat 1),x8,x9,(lit [48]),false,false,()))) else bif x0 == ofNat 1 then some (inr (inl (x7,wrap .i64 (x9 + ofNat 1),x9,(lit [48]),false,false,()))) else bif x0 == ofNat 2 then some (inr (inl (x7,x8,wrap .i64 (x9 + ofNat 1),(lit [48]),false,false,()))) else none else none else bif x0 == ofNat 0 then some (inl (wrap .i64 (x0 - ofNat 1),x1,x2,x3,x4,x5,x6,ofNat 0,x8,x9,())) else bif x0 == ofNat 1 then some (inl (wrap .i64 (x0 - ofNat 1),x1,x2,x3,x4,x5,x6,x7,ofNat 0,x9,())) else bif x0 == ofNat 2 then some (inl (wrap .i64 (x0 - ofNat 1),x1,x2,x3,x4,x5,x6,x7,x8,ofNat 0,())) else none else bif x0 == ofNat 1 then bif decide (x8 < ofNat 999999) then bif x0 == ofNat 0 then bif x0 == ofNat 0 then some (inr (inl (wrap .i64 (x7 + ofNat 1),x8,x9,(lit [48]),false,false,()))) else bif x0 == ofNat 1 then some (inr (inl (x7,wrap .i64 (x7 + ofNat 1),x9,(lit [48]),false,false,()))) else bif x0 == ofNat 2 then some (inr (inl (x7,x8,wrap .i64 (x7 + ofNat 1),(lit [48]),false,false,()))) else none else bif x0 == ofNat 1 then bif x0 == ofNat 0 then some (inr (inl (wrap .i64 (x8 + ofNat 1),x8,x9,(lit [48]),false,false,()))) else bif x0 == ofNat 1 then some (inr (inl (x7,wrap .i64 (x8 + ofNat 1),x9,(lit [48]),false,false,()))) else bif x0 == ofNat 2 then some (inr (inl (x7,x8,wrap .i64 (x8 + ofNat 1),(lit [48]),false,false,()))) else none else bif x0 == ofNat 2 then bif x0 == ofNat 0 then some (inr (inl (wrap .i64 (x9 + ofNat 1),x8,x9,(lit [48]),false,false,()))) else bif x0 == ofNat 1 then some (inr (inl (x7,wrap .i64 (x9 + ofNat 1),x9,(lit [48]),false,false,()))) else bif x0 == ofNat 2 then some (inr (inl (x7,x8,wrap .i64 (x9 + ofNat 1),(lit [48]),false,false,()))) else none else none else bif x0 == ofNat 0 then some (inl (wrap .i64 (x0 - ofNat 1),x1,x2,x3,x4,x5,x6,ofNat 0,x8,x9,())) else bif x0 == ofNat 1 then some (inl (wrap .i64 (x0 - ofNat 1),x1,x2,x3,x4,x5,x6,x7,ofNat 0,x9,())) else bif x0 == ofNat 2 then some (inl (wrap .i64 (x0 - ofNat 1),x1,x2,x3,x4,x5,x6,x7,x8,ofNat 0,())) else none else bif x0 == ofNat 2 then bif decide (x9 < ofNat 999999) then bif x0 == ofNat 0 then bif x0 == ofNat 0 then some (inr (inl (wrap .i64 (x7 + ofNat 1),x8,x9,(lit [48]),false,false,()))) else bif x0 == ofNat 1 then some (inr (inl (x7,wrap .i64 (x7 + ofNat 1),x9,(lit [48]),false,false,()))) else bif x0 == ofNat 2 then some (inr (inl (x7,x8,wrap .i64 (x7 + ofNat 1),(lit [48]),false,false,()))) else none else bif x0 == ofNat 1 then bif x0 == ofNat 0 then some (inr (inl (wrap .i64 (x8 + ofNat 1),x8,x9,(lit [48]),false,false,()))) else bif x0 == ofNat 1 then some (inr (inl (x7,wrap .i64 (x8 + ofNat 1),x9,(lit [48]),false,false,()))) else bif x0 == ofNat 2 then some (inr (inl (x7,x8,wrap .i64 (x8 + ofNat 1),(lit [48]),false,false,()))) else none else bif x0 == ofNat 2 then bif x0 == ofNat 0 then some (inr (inl (wrap .i64 (x9 + ofNat 1),x8,x9,(lit [48]),false,false,()))) else bif x0 == ofNat 1 then some (inr (inl (x7,wrap .i64 (x9 + ofNat 1),x9,(lit [48]),false,false,()))) else bif x0 == ofNat 2 then some (inr (inl (x7,x8,wrap .i64 (x9 + ofNat 1),(lit [48]),false,false,()))) else none else none else bif x0 == ofNat 0 then some (inl (wrap .i64 (x0 - ofNat 1),x1,x2,x3,x4,x5,x6,ofNat 0,x8,x9,())) else bif x0 == ofNat 1 then some (inl (wrap .i64 (x0 - ofNat 1),x1,x2,x3,x4,x5,x6,x7,ofNat 0,x9,())) else bif x0 == ofNat 2 then some (inl (wrap .i64 (x0 - ofNat 1),x1,x2,x3,x4,x5,x6,x7,x8,ofNat 0,())) else none else none else some (inr (inr (x1,x2,x3,x4,x5,x6,())))
theorem PB250_1_ok:B250_1 = PB250_1:=by
 funext p
 obtain ⟨x0,x1,x2,x3,x4,x5,x6,x7,x8,x9,⟨⟩⟩:=p
 unfold PB250_1
 kernel_rfl
def PF250:Int × Int × Int × ByteArray × Int × Unit → Option (Int × Int × Int × ByteArray × Bool × Bool × Unit):=fun (x0,x1,x2,x3,x4,_) =>
 Option.bind (loop PB250_0 (x4,wrap .i64 (x4 + ofNat 1),ofNat 0,ofNat 0,ofNat 0,(lit []),false,false,x0,x1,x2,())) fun r => Option.bind (loop PB250_1 (r.1,r.2.1,r.2.2.1,r.2.2.2.1,r.2.2.2.2.1,r.2.2.2.2.2.1,r.2.2.2.2.2.2.1,r.2.2.2.2.2.2.2.1,r.2.2.2.2.2.2.2.2.1,r.2.2.2.2.2.2.2.2.2.1,())) fun r => elim (fun p => some (p.1,p.2.1,p.2.2.1,p.2.2.2.1,p.2.2.2.2.1,p.2.2.2.2.2.1,())) (fun p => some (ofNat 0,ofNat 0,ofNat 0,(lit []),false,true,())) r
theorem PF250_ok:F250 = PF250:=by
 funext p
 obtain ⟨x0,x1,x2,x3,x4,⟨⟩⟩:=p
 unfold PF250
 rw [← PB250_0_ok,← PB250_1_ok]
 kernel_rfl
def PB100_0:List R8 × Int × Int × List R9 × Unit → Option ((List R8 × Int × Int × List R9 × Unit) ⊕ List R9 × Unit):=fun (x0,x1,x2,x3,_) =>
 bif decide (x2 < x1) then bif decide (ofNat 0 ≤ x2) then Option.bind x0[toNat x2]? fun y => bif y.2.2.2.2.2.2.2.2.2.2.1 then bif decide (length x3 + length [(y.1,y.2.1,y.2.2.1,y.2.2.2.1,y.2.2.2.2.2.2.2.2.1,false,ofNat 0,ofNat 0,ofNat 0,(lit []),false,true,())] ≤ 1466015503701) then some (inl (x0,x1,wrap .i64 (x2 + ofNat 1),x3 ++ [(y.1,y.2.1,y.2.2.1,y.2.2.2.1,y.2.2.2.2.2.2.2.2.1,false,ofNat 0,ofNat 0,ofNat 0,(lit []),false,true,())],())) else none else bif decide (length x3 + length [(y.1,y.2.1,y.2.2.1,y.2.2.2.1,y.2.2.2.2.2.2.2.2.1,false,y.2.2.2.2.1,y.2.2.2.2.2.1,y.2.2.2.2.2.2.1,y.2.2.2.2.2.2.2.1,y.2.2.2.2.2.2.2.2.2.1,false,())] ≤ 1466015503701) then some (inl (x0,x1,wrap .i64 (x2 + ofNat 1),x3 ++ [(y.1,y.2.1,y.2.2.1,y.2.2.2.1,y.2.2.2.2.2.2.2.2.1,false,y.2.2.2.2.1,y.2.2.2.2.2.1,y.2.2.2.2.2.2.1,y.2.2.2.2.2.2.2.1,y.2.2.2.2.2.2.2.2.2.1,false,())],())) else none else none else some (inr (x3,()))
theorem PB100_0_ok:B100_0 = PB100_0:=by
 funext p
 obtain ⟨x0,x1,x2,x3,⟨⟩⟩:=p
 unfold PB100_0
 kernel_rfl
def PF100:List R8 × Unit → Option (List R9 × Unit):=fun (x0,_) =>
 Option.bind (loop PB100_0 (x0,ofNat (length x0),ofNat 0,[],())) fun r => some (r.1,())
theorem PF100_ok:F100 = PF100:=by
 funext p
 obtain ⟨x0,⟨⟩⟩:=p
 unfold PF100
 rw [← PB100_0_ok]
 kernel_rfl
def PF252:Unit → Option (Int × Int × Int × ByteArray × Bool × Bool × Unit):=fun (_) =>
 some (ofNat 0,ofNat 0,ofNat 0,(lit []),false,true,())
theorem PF252_ok:F252 = PF252:=by
 funext p
 unfold PF252
 kernel_rfl
def PF253:Unit → Option (Int × Int × Int × ByteArray × Bool × Bool × Unit):=fun (_) =>
 Option.bind (PF204 ()) fun r => some (r.1,r.2.1,r.2.2.1,r.2.2.2.1,false,false,())
theorem PF253_ok:F253 = PF253:=by
 funext p
 unfold PF253
 rw [← PF204_ok]
 kernel_rfl
def PF254:Int × Int × Int × ByteArray × Unit → Option (Int × Int × Int × ByteArray × Bool × Bool × Unit):=fun (x0,x1,x2,x3,_) =>
 bif decide (x0 > ofNat 0) then Option.bind (PF250 (x0,x1,x2,x3,ofNat 0,())) fun r => some (r.1,r.2.1,r.2.2.1,r.2.2.2.1,r.2.2.2.2.1,r.2.2.2.2.2.1,()) else bif decide (x1 > ofNat 0) then Option.bind (PF250 (x0,x1,x2,x3,ofNat 1,())) fun r => some (r.1,r.2.1,r.2.2.1,r.2.2.2.1,r.2.2.2.2.1,r.2.2.2.2.2.1,()) else Option.bind (PF250 (x0,x1,x2,x3,ofNat 2,())) fun r => some (r.1,r.2.1,r.2.2.1,r.2.2.2.1,r.2.2.2.2.1,r.2.2.2.2.2.1,())
theorem PF254_ok:F254 = PF254:=by
 funext p
 obtain ⟨x0,x1,x2,x3,⟨⟩⟩:=p
 unfold PF254
 rw [← PF250_ok]
 kernel_rfl
def PB100v1_0:Int × Int × List R8 × List R9 × Unit → Option ((Int × Int × List R8 × List R9 × Unit) ⊕ List R8 × List R9 × Unit):=fun (x0,x1,x2,x3,_) =>
 bif decide (x1 < x0) then bif decide (ofNat 0 ≤ x1) && decide (x1 < ofNat (length x2)) then Option.bind x2[toNat x1]? fun y => bif y.2.2.2.2.2.2.2.2.2.2.1 then bif decide (length x3 + length [(y.1,y.2.1,y.2.2.1,y.2.2.2.1,y.2.2.2.2.2.2.2.2.1,false,ofNat 0,ofNat 0,ofNat 0,(lit []),false,true,())] ≤ 1466015503701) then some (inl (x0,wrap .i64 (x1 + ofNat 1),x2,x3 ++ [(y.1,y.2.1,y.2.2.1,y.2.2.2.1,y.2.2.2.2.2.2.2.2.1,false,ofNat 0,ofNat 0,ofNat 0,(lit []),false,true,())],())) else none else bif decide (length x3 + length [(y.1,y.2.1,y.2.2.1,y.2.2.2.1,y.2.2.2.2.2.2.2.2.1,false,y.2.2.2.2.1,y.2.2.2.2.2.1,y.2.2.2.2.2.2.1,y.2.2.2.2.2.2.2.1,y.2.2.2.2.2.2.2.2.2.1,false,())] ≤ 1466015503701) then some (inl (x0,wrap .i64 (x1 + ofNat 1),x2,x3 ++ [(y.1,y.2.1,y.2.2.1,y.2.2.2.1,y.2.2.2.2.2.2.2.2.1,false,y.2.2.2.2.1,y.2.2.2.2.2.1,y.2.2.2.2.2.2.1,y.2.2.2.2.2.2.2.1,y.2.2.2.2.2.2.2.2.2.1,false,())],())) else none else none else some (inr (x2,x3,()))
theorem PB100v1_0_ok:B100v1_0 = PB100v1_0:=by
 funext p
 obtain ⟨x0,x1,x2,x3,⟨⟩⟩:=p
 unfold PB100v1_0
 kernel_rfl
def PF100v1:List R8 × Unit → Option (List R8 × List R9 × Unit):=fun (x0,_) =>
 Option.bind (loop PB100v1_0 (ofNat (length x0),ofNat 0,x0,[],())) fun r => some (r.1,r.2.1,())
theorem PF100v1_ok:F100v1 = PF100v1:=by
 funext p
 obtain ⟨x0,⟨⟩⟩:=p
 unfold PF100v1
 rw [← PB100v1_0_ok]
 kernel_rfl
def PF214:Int × Unit → Option (List R8 × Unit):=fun (x0,_) =>
 bif decide (x0 < ofNat 0) then none else bif decide (wrap .i64 (x0 - ofNat 0) > ofNat 0) then bif decide (ofNat 0 < wrap .i64 (x0 - ofNat 0)) && decide (wrap .i64 (x0 - ofNat 0) ≤ ofNat 1599289640401) then bif decide (ofNat 0 ≤ ofNat (length (List.replicate (toNat (wrap .i64 (x0 - ofNat 0))) (ofNat 0,ofNat 0,ofNat 0,(lit []),ofNat 0,ofNat 0,ofNat 0,(lit []),false,false,false,())))) && decide (ofNat (length (List.replicate (toNat (wrap .i64 (x0 - ofNat 0))) (ofNat 0,ofNat 0,ofNat 0,(lit []),ofNat 0,ofNat 0,ofNat 0,(lit []),false,false,false,()))) ≤ ofNat (length (List.replicate (toNat (wrap .i64 (x0 - ofNat 0))) (ofNat 0,ofNat 0,ofNat 0,(lit []),ofNat 0,ofNat 0,ofNat 0,(lit []),false,false,false,())))) then some (List.take 0 (List.replicate (toNat (wrap .i64 (x0 - ofNat 0))) (ofNat 0,ofNat 0,ofNat 0,(lit []),ofNat 0,ofNat 0,ofNat 0,(lit []),false,false,false,())),()) else none else none else some ([],())
theorem PF214_ok:F214 = PF214:=by
 funext p
 obtain ⟨x0,⟨⟩⟩:=p
 unfold PF214
 kernel_rfl
def PB160_0:List (List R8) × Int × List (List R8) × Int × Int × Unit → Option ((List (List R8) × Int × List (List R8) × Int × Int × Unit) ⊕ List (List R8) × Int × Unit):=fun (x0,x1,x2,x3,x4,_) =>
 bif decide (x4 < x3) then bif decide (ofNat 0 ≤ x4) then Option.bind x2[toNat x4]? fun y => bif decide (wrap .i64 (x1 + ofNat (length y)) < ofNat 0) then none else some (inl (x0,wrap .i64 (x1 + ofNat (length y)),x2,x3,wrap .i64 (x4 + ofNat 1),())) else none else some (inr (x0,x1,()))
theorem PB160_0_ok:B160_0 = PB160_0:=by
 funext p
 obtain ⟨x0,x1,x2,x3,x4,⟨⟩⟩:=p
 unfold PB160_0
 kernel_rfl
def PB160_1:List (List R8) × Int × Int × List R8 × Unit → Option ((List (List R8) × Int × Int × List R8 × Unit) ⊕ List R8 × Unit):=fun (x0,x1,x2,x3,_) =>
 bif decide (x2 < x1) then bif decide (ofNat 0 ≤ x2) then Option.bind x0[toNat x2]? fun y => bif decide (length x3 + length y ≤ 1599289640401) then some (inl (x0,x1,wrap .i64 (x2 + ofNat 1),x3 ++ y,())) else none else none else some (inr (x3,()))
theorem PB160_1_ok:B160_1 = PB160_1:=by
 funext p
 obtain ⟨x0,x1,x2,x3,⟨⟩⟩:=p
 unfold PB160_1
 kernel_rfl
def PF160:List (List R8) × Unit → Option (List R8 × Unit):=fun (x0,_) =>
 Option.bind (loop PB160_0 (x0,ofNat 0,x0,ofNat (length x0),ofNat 0,())) fun r => Option.bind (PF214 (r.2.1,())) fun r_1 => Option.bind (loop PB160_1 (r.1,ofNat (length r.1),ofNat 0,r_1.1,())) fun r => some (r.1,())
theorem PF160_ok:F160 = PF160:=by
 funext p
 obtain ⟨x0,⟨⟩⟩:=p
 unfold PF160
 rw [← PB160_0_ok,← PB160_1_ok,← PF214_ok]
 kernel_rfl
def PF101:Int × Int × Int × ByteArray × Bool × Bool × Int × Int × Int × ByteArray × Bool × Bool × Int × Int × Int × ByteArray × Unit → Option (Bool × Int × Int × Int × ByteArray × Unit):=fun (x0,x1,x2,x3,x4,x5,x6,x7,x8,x9,x10,x11,x12,x13,x14,x15,_) =>
 Option.bind (PF102 (x0,x1,x2,x3,x4,x5,x12,x13,x14,x15,false,false,())) fun r => bif decide (r.1 ≤ ofNat 0) then Option.bind (PF102 (x12,x13,x14,x15,false,false,x6,x7,x8,x9,x10,x11,())) fun r => some (decide (r.1 < ofNat 0),x12,x13,x14,x15,()) else some (false,x12,x13,x14,x15,())
theorem PF101_ok:F101 = PF101:=by
 funext p
 obtain ⟨x0,x1,x2,x3,x4,x5,x6,x7,x8,x9,x10,x11,x12,x13,x14,x15,⟨⟩⟩:=p
 unfold PF101
 rw [← PF102_ok]
 kernel_rfl
def PB162v1_0:Int × Int × List R9 × Int × Int × Int × ByteArray × Unit → Option ((Int × Int × List R9 × Int × Int × Int × ByteArray × Unit) ⊕ (Int × List R9 × Int × Int × Int × ByteArray × Unit) ⊕ (List R9 × Int × Int × Int × ByteArray × Unit)):=fun (x0,x1,x2,x3,x4,x5,x6,_) =>
 bif decide (x1 < x0) then bif decide (ofNat 0 ≤ x1) && decide (x1 < ofNat (length x2)) then Option.bind x2[toNat x1]? fun y => Option.bind (PF101 (y.1,y.2.1,y.2.2.1,y.2.2.2.1,y.2.2.2.2.1,y.2.2.2.2.2.1,y.2.2.2.2.2.2.1,y.2.2.2.2.2.2.2.1,y.2.2.2.2.2.2.2.2.1,y.2.2.2.2.2.2.2.2.2.1,y.2.2.2.2.2.2.2.2.2.2.1,y.2.2.2.2.2.2.2.2.2.2.2.1,x3,x4,x5,x6,())) fun r => bif r.1 then some (inr (inl (x1,x2,r.2.1,r.2.2.1,r.2.2.2.1,r.2.2.2.2.1,()))) else some (inl (x0,wrap .i64 (x1 + ofNat 1),x2,r.2.1,r.2.2.1,r.2.2.2.1,r.2.2.2.2.1,())) else none else some (inr (inr (x2,x3,x4,x5,x6,())))
theorem PB162v1_0_ok:B162v1_0 = PB162v1_0:=by
 funext p
 obtain ⟨x0,x1,x2,x3,x4,x5,x6,⟨⟩⟩:=p
 unfold PB162v1_0
 rw [← PF101_ok]
 kernel_rfl
def PF162v1:List R9 × Int × Int × Int × ByteArray × Unit → Option (Int × List R9 × Int × Int × Int × ByteArray × Unit):=fun (x0,x1,x2,x3,x4,_) =>
 Option.bind (loop PB162v1_0 (ofNat (length x0),ofNat 0,x0,x1,x2,x3,x4,())) fun r => elim (fun p => some (p.1,p.2.1,p.2.2.1,p.2.2.2.1,p.2.2.2.2.1,p.2.2.2.2.2.1,())) (fun p => some (Int.negSucc 0,p.1,p.2.1,p.2.2.1,p.2.2.2.1,p.2.2.2.2.1,())) r
theorem PF162v1_ok:F162v1 = PF162v1:=by
 funext p
 obtain ⟨x0,x1,x2,x3,x4,⟨⟩⟩:=p
 unfold PF162v1
 rw [← PB162v1_0_ok]
 kernel_rfl
def PF99:List R9 × Int × Int × Int × ByteArray × Unit → Option (Bool × List R9 × Int × Int × Int × ByteArray × Unit):=fun (x0,x1,x2,x3,x4,_) =>
 Option.bind (PF162v1 (x0,x1,x2,x3,x4,())) fun r => some (decide (r.1 ≥ ofNat 0),r.2.1,r.2.2.1,r.2.2.2.1,r.2.2.2.2.1,r.2.2.2.2.2.1,())
theorem PF99_ok:F99 = PF99:=by
 funext p
 obtain ⟨x0,x1,x2,x3,x4,⟨⟩⟩:=p
 unfold PF99
 rw [← PF162v1_ok]
 kernel_rfl
def PF63:List R8 × Int × Int × Int × ByteArray × Unit → Option (Bool × Unit):=fun (x0,x1,x2,x3,x4,_) =>
 Option.bind (PF100 (x0,())) fun r => Option.bind (PF99 (r.1,x1,x2,x3,x4,())) fun r => some (r.1,())
theorem PF63_ok:F63 = PF63:=by
 funext p
 obtain ⟨x0,x1,x2,x3,x4,⟨⟩⟩:=p
 unfold PF63
 rw [← PF100_ok,← PF99_ok]
 kernel_rfl
def PF171:ByteArray × Int × Int × Int × ByteArray × Unit → Option (Bool × Unit):=fun (x0,x1,x2,x3,x4,_) =>
 Option.bind (PF19 (x0,())) fun r => bif r.2.1 == x1 then some (true,()) else bif r.2.1 == ofNat 0 then some (x1 == ofNat 1,()) else some (false,())
theorem PF171_ok:F171 = PF171:=by
 funext p
 obtain ⟨x0,x1,x2,x3,x4,⟨⟩⟩:=p
 unfold PF171
 rw [← PF19_ok]
 kernel_rfl
def PB159_0:Nat × Nat × Int × Int × List R9 × List R9 × Unit → Option ((Nat × Nat × Int × Int × List R9 × List R9 × Unit) ⊕ List R9 × List R9 × Unit):=fun (x0,x1,x2,x3,x4,x5,_) =>
 bif decide (x3 < x2) then bif decide (ofNat 0 ≤ x3) && decide (x3 < ofNat (x1 - x0)) then Option.bind x4[x0 + toNat x3]? fun y => bif decide (wrap .i64 (ofNat (length x5) - ofNat 1) ≥ ofNat 0) then bif decide (ofNat 0 ≤ wrap .i64 (ofNat (length x5) - ofNat 1)) && decide (wrap .i64 (ofNat (length x5) - ofNat 1) < ofNat (length x5)) then Option.bind x5[toNat (wrap .i64 (ofNat (length x5) - ofNat 1))]? fun y_1 => Option.bind (PF102 (y.1,y.2.1,y.2.2.1,y.2.2.2.1,y.2.2.2.2.1,y.2.2.2.2.2.1,y_1.2.2.2.2.2.2.1,y_1.2.2.2.2.2.2.2.1,y_1.2.2.2.2.2.2.2.2.1,y_1.2.2.2.2.2.2.2.2.2.1,y_1.2.2.2.2.2.2.2.2.2.2.1,y_1.2.2.2.2.2.2.2.2.2.2.2.1,())) fun r => bif decide (r.1 ≤ ofNat 0) then bif decide (ofNat 0 ≤ wrap .i64 (ofNat (length x5) - ofNat 1)) && decide (wrap .i64 (ofNat (length x5) - ofNat 1) < ofNat (length x5)) then Option.bind x5[toNat (wrap .i64 (ofNat (length x5) - ofNat 1))]? fun y_2 => Option.bind (PF102 (y.2.2.2.2.2.2.1,y.2.2.2.2.2.2.2.1,y.2.2.2.2.2.2.2.2.1,y.2.2.2.2.2.2.2.2.2.1,y.2.2.2.2.2.2.2.2.2.2.1,y.2.2.2.2.2.2.2.2.2.2.2.1,y_2.2.2.2.2.2.2.1,y_2.2.2.2.2.2.2.2.1,y_2.2.2.2.2.2.2.2.2.1,y_2.2.2.2.2.2.2.2.2.2.1,y_2.2.2.2.2.2.2.2.2.2.2.1,y_2.2.2.2.2.2.2.2.2.2.2.2.1,())) fun r => bif decide (r.1 > ofNat 0) then bif decide (ofNat 0 ≤ wrap .i64 (ofNat (length x5) - ofNat 1)) && decide (wrap .i64 (ofNat (length x5) - ofNat 1) < ofNat (length x5)) then Option.bind x5[toNat (wrap .i64 (ofNat (length x5) - ofNat 1))]? fun y_3 => some (inl (x0,x1,x2,wrap .i64 (x3 + ofNat 1),x4,List.set x5 (toNat (wrap .i64 (ofNat (length x5) - ofNat 1))) (y_3.1,y_3.2.1,y_3.2.2.1,y_3.2.2.2.1,y_3.2.2.2.2.1,y_3.2.2.2.2.2.1,y.2.2.2.2.2.2.1,y.2.2.2.2.2.2.2.1,y.2.2.2.2.2.2.2.2.1,y.2.2.2.2.2.2.2.2.2.1,y.2.2.2.2.2.2.2.2.2.2.1,y.2.2.2.2.2.2.2.2.2.2.2.1,()),())) else none else some (inl (x0,x1,x2,wrap .i64 (x3 + ofNat 1),x4,x5,())) else none else bif decide (length x5 + length [(y.1,y.2.1,y.2.2.1,y.2.2.2.1,y.2.2.2.2.1,y.2.2.2.2.2.1,y.2.2.2.2.2.2.1,y.2.2.2.2.2.2.2.1,y.2.2.2.2.2.2.2.2.1,y.2.2.2.2.2.2.2.2.2.1,y.2.2.2.2.2.2.2.2.2.2.1,y.2.2.2.2.2.2.2.2.2.2.2.1,())] ≤ 1466015503701) then some (inl (x0,x1,x2,wrap .i64 (x3 + ofNat 1),x4,x5 ++ [(y.1,y.2.1,y.2.2.1,y.2.2.2.1,y.2.2.2.2.1,y.2.2.2.2.2.1,y.2.2.2.2.2.2.1,y.2.2.2.2.2.2.2.1,y.2.2.2.2.2.2.2.2.1,y.2.2.2.2.2.2.2.2.2.1,y.2.2.2.2.2.2.2.2.2.2.1,y.2.2.2.2.2.2.2.2.2.2.2.1,())],())) else none else none else bif decide (length x5 + length [(y.1,y.2.1,y.2.2.1,y.2.2.2.1,y.2.2.2.2.1,y.2.2.2.2.2.1,y.2.2.2.2.2.2.1,y.2.2.2.2.2.2.2.1,y.2.2.2.2.2.2.2.2.1,y.2.2.2.2.2.2.2.2.2.1,y.2.2.2.2.2.2.2.2.2.2.1,y.2.2.2.2.2.2.2.2.2.2.2.1,())] ≤ 1466015503701) then some (inl (x0,x1,x2,wrap .i64 (x3 + ofNat 1),x4,x5 ++ [(y.1,y.2.1,y.2.2.1,y.2.2.2.1,y.2.2.2.2.1,y.2.2.2.2.2.1,y.2.2.2.2.2.2.1,y.2.2.2.2.2.2.2.1,y.2.2.2.2.2.2.2.2.1,y.2.2.2.2.2.2.2.2.2.1,y.2.2.2.2.2.2.2.2.2.2.1,y.2.2.2.2.2.2.2.2.2.2.2.1,())],())) else none else none else some (inr (x4,x5,()))
theorem PB159_0_ok:B159_0 = PB159_0:=by
 funext p
 obtain ⟨x0,x1,x2,x3,x4,x5,⟨⟩⟩:=p
 unfold PB159_0
 rw [← PF102_ok]
 kernel_rfl
def PB159_1:Int × Int × List R9 × List R8 × List R9 × Unit → Option ((Int × Int × List R9 × List R8 × List R9 × Unit) ⊕ List R9 × List R8 × Unit):=fun (x0,x1,x2,x3,x4,_) =>
 bif decide (x1 < x0) then bif decide (ofNat 0 ≤ x1) && decide (x1 < ofNat (length x4)) then Option.bind x4[toNat x1]? fun y => bif decide (length x3 + length [(y.1,y.2.1,y.2.2.1,y.2.2.2.1,y.2.2.2.2.2.2.1,y.2.2.2.2.2.2.2.1,y.2.2.2.2.2.2.2.2.1,y.2.2.2.2.2.2.2.2.2.1,y.2.2.2.2.1,y.2.2.2.2.2.2.2.2.2.2.1,y.2.2.2.2.2.2.2.2.2.2.2.1,())] ≤ 1599289640401) then some (inl (x0,wrap .i64 (x1 + ofNat 1),x2,x3 ++ [(y.1,y.2.1,y.2.2.1,y.2.2.2.1,y.2.2.2.2.2.2.1,y.2.2.2.2.2.2.2.1,y.2.2.2.2.2.2.2.2.1,y.2.2.2.2.2.2.2.2.2.1,y.2.2.2.2.1,y.2.2.2.2.2.2.2.2.2.2.1,y.2.2.2.2.2.2.2.2.2.2.2.1,())],x4,())) else none else none else some (inr (x2,x3,()))
theorem PB159_1_ok:B159_1 = PB159_1:=by
 funext p
 obtain ⟨x0,x1,x2,x3,x4,⟨⟩⟩:=p
 unfold PB159_1
 kernel_rfl
def PF159:List R9 × Unit → Option (List R8 × List R9 × Unit):=fun (x0,_) =>
 Option.bind (PF209 (x0,())) fun r => Option.bind (F211 (r.1,r.2.1,r.2.2.1,())) fun r_1 => Option.bind (loop PB159_0 (r.1,r.2.1,ofNat (r.2.1 - r.1),ofNat 0,r_1.1,[],())) fun r => Option.bind (loop PB159_1 (ofNat (length r.2.1),ofNat 0,r.1,[],r.2.1,())) fun r => Option.bind (PF213 (r.2.1,())) fun r_2 => some (r_2.1,r.1,())
theorem PF159_ok:F159 = PF159:=by
 funext p
 obtain ⟨x0,⟨⟩⟩:=p
 unfold PF159
 rw [← PB159_0_ok,← PB159_1_ok,← PF209_ok,← PF213_ok]
 kernel_rfl
def PF157:Int × Int × Int × ByteArray × Bool × Bool × Int × Int × Int × ByteArray × Bool × Bool × Unit → Option (List R8 × Unit):=fun (x0,x1,x2,x3,x4,x5,x6,x7,x8,x9,x10,x11,_) =>
 Option.bind (PF159 ([(x0,x1,x2,x3,x4,x5,x6,x7,x8,x9,x10,x11,())],())) fun r => some (r.1,())
theorem PF157_ok:F157 = PF157:=by
 funext p
 obtain ⟨x0,x1,x2,x3,x4,x5,x6,x7,x8,x9,x10,x11,⟨⟩⟩:=p
 unfold PF157
 rw [← PF159_ok]
 kernel_rfl
def PB207_0:List ByteArray × List ByteArray × Int × Int × Int × Int × Unit → Option ((List ByteArray × List ByteArray × Int × Int × Int × Int × Unit) ⊕ (Bool × Unit) ⊕ (List ByteArray × Int × Int × Unit)):=fun (x0,x1,x2,x3,x4,x5,_) =>
 bif decide (x3 < x2) then bif decide (ofNat 0 ≤ x3) then Option.bind x1[toNat x3]? fun y => Option.bind (PF146 (y,())) fun r => bif !r.2.1 then some (inr (inl (false,()))) else bif decide (r.1 > ofNat 999999) then some (inr (inl (false,()))) else bif x3 == ofNat 0 then some (inl (x0,x1,x2,wrap .i64 (x3 + ofNat 1),r.1,x5,())) else bif x3 == ofNat 1 then some (inl (x0,x1,x2,wrap .i64 (x3 + ofNat 1),x4,r.1,())) else none else none else some (inr (inr (x0,x4,x5,())))
theorem PB207_0_ok:B207_0 = PB207_0:=by
 funext p
 obtain ⟨x0,x1,x2,x3,x4,x5,⟨⟩⟩:=p
 unfold PB207_0
 rw [← PF146_ok]
 kernel_rfl
def PF207:ByteArray × Unit → Option (List R8 × Bool × Unit):=fun (x0,_) =>
 Option.bind (PF249 (x0,(lit [46,120]),())) fun r => Option.bind (PF90 (r.1,(lit [118]),())) fun r_1 => Option.bind (PF136 (r_1.1,(lit [46]),())) fun r_2 => bif !r.2.1 then some ([],false,()) else bif !r_1.2.1 then some ([],false,()) else bif decide (ofNat (length r_2.1) > ofNat 2) then some ([],false,()) else Option.bind (loop PB207_0 (r_2.1,r_2.1,ofNat (length r_2.1),ofNat 0,ofNat 0,ofNat 0,())) fun r => elim (fun p => some ([],p.1,())) (fun p => Option.bind (PF250 (p.2.1,p.2.2.1,ofNat 0,(lit [48]),wrap .i64 (ofNat (length p.1) - ofNat 1),())) fun r => Option.bind (PF157 (p.2.1,p.2.2.1,ofNat 0,(lit [48]),false,false,r.1,r.2.1,r.2.2.1,r.2.2.2.1,r.2.2.2.2.1,r.2.2.2.2.2.1,())) fun r => some (r.1,true,())) r
theorem PF207_ok:F207 = PF207:=by
 funext p
 obtain ⟨x0,⟨⟩⟩:=p
 unfold PF207
 rw [← PB207_0_ok,← PF136_ok,← PF157_ok,← PF249_ok,← PF250_ok,← PF90_ok]
 kernel_rfl
def PB251_0:Int × Int × Int × Int × Int × ByteArray × Bool × Bool × List R9 × List R9 × Unit → Option ((Int × Int × Int × Int × Int × ByteArray × Bool × Bool × List R9 × List R9 × Unit) ⊕ Int × Int × Int × ByteArray × Bool × Bool × List R9 × Unit):=fun (x0,x1,x2,x3,x4,x5,x6,x7,x8,x9,_) =>
 bif decide (x1 < x0) then bif decide (ofNat 0 ≤ x1) && decide (x1 < ofNat (length x9)) then Option.bind x9[toNat x1]? fun y => bif decide (length x8 + length [(x2,x3,x4,x5,x6,x7,y.1,y.2.1,y.2.2.1,y.2.2.2.1,y.2.2.2.2.1,y.2.2.2.2.2.1,())] ≤ 1466015503701) then some (inl (x0,wrap .i64 (x1 + ofNat 1),y.2.2.2.2.2.2.1,y.2.2.2.2.2.2.2.1,y.2.2.2.2.2.2.2.2.1,y.2.2.2.2.2.2.2.2.2.1,y.2.2.2.2.2.2.2.2.2.2.1,y.2.2.2.2.2.2.2.2.2.2.2.1,x8 ++ [(x2,x3,x4,x5,x6,x7,y.1,y.2.1,y.2.2.1,y.2.2.2.1,y.2.2.2.2.1,y.2.2.2.2.2.1,())],x9,())) else none else none else some (inr (x2,x3,x4,x5,x6,x7,x8,()))
theorem PB251_0_ok:B251_0 = PB251_0:=by
 funext p
 obtain ⟨x0,x1,x2,x3,x4,x5,x6,x7,x8,x9,⟨⟩⟩:=p
 unfold PB251_0
 kernel_rfl
def PF251:List R8 × Unit → Option (List R8 × Unit):=fun (x0,_) =>
 Option.bind (PF204 ()) fun r => Option.bind (PF100 (x0,())) fun r_1 => Option.bind (loop PB251_0 (ofNat (length r_1.1),ofNat 0,r.1,r.2.1,r.2.2.1,r.2.2.2.1,false,false,[],r_1.1,())) fun r => bif decide (length r.2.2.2.2.2.2.1 + length [(r.1,r.2.1,r.2.2.1,r.2.2.2.1,r.2.2.2.2.1,r.2.2.2.2.2.1,ofNat 0,ofNat 0,ofNat 0,(lit []),false,true,())] ≤ 1466015503701) then Option.bind (PF159 (r.2.2.2.2.2.2.1 ++ [(r.1,r.2.1,r.2.2.1,r.2.2.2.1,r.2.2.2.2.1,r.2.2.2.2.2.1,ofNat 0,ofNat 0,ofNat 0,(lit []),false,true,())],())) fun r => some (r.1,()) else none
theorem PF251_ok:F251 = PF251:=by
 funext p
 obtain ⟨x0,⟨⟩⟩:=p
 unfold PF251
 rw [← PB251_0_ok,← PF100_ok,← PF159_ok,← PF204_ok]
 kernel_rfl
def PF208:ByteArray × Unit → Option (List R8 × Bool × Unit):=fun (x0,_) =>
 Option.bind (PF241 (x0,ofNat 118,())) fun r => bif decide (r.1 < ofNat 0) then some ([],false,()) else bif decide (ofNat 0 ≤ r.1) && (decide (r.1 ≤ ofNat (size x0)) && decide (ofNat (size x0) ≤ ofNat (size x0))) then Option.bind (PF91 (ByteArray.extract x0 (toNat r.1) (toNat (ofNat (size x0))),())) fun r_1 => bif !r_1.2.2.2.2.1 then some ([],false,()) else bif decide (ofNat 0 ≤ r.1) && decide (r.1 ≤ ofNat (size x0)) then bif bl (ByteArray.extract x0 0 (toNat r.1)) == [] then bif bl (ByteArray.extract x0 0 (toNat r.1)) == [] then Option.bind (PF157 (r_1.1,r_1.2.1,r_1.2.2.1,r_1.2.2.2.1,false,false,r_1.1,r_1.2.1,r_1.2.2.1,r_1.2.2.2.1,true,false,())) fun r => some (r.1,true,()) else bif bl (ByteArray.extract x0 0 (toNat r.1)) == [33,61] then Option.bind (PF157 (r_1.1,r_1.2.1,r_1.2.2.1,r_1.2.2.2.1,false,false,r_1.1,r_1.2.1,r_1.2.2.1,r_1.2.2.2.1,true,false,())) fun r => Option.bind (PF251 (r.1,())) fun r => some (r.1,true,()) else bif bl (ByteArray.extract x0 0 (toNat r.1)) == [62] then Option.bind (PF252 ()) fun r => Option.bind (PF157 (r_1.1,r_1.2.1,r_1.2.2.1,r_1.2.2.2.1,true,false,r.1,r.2.1,r.2.2.1,r.2.2.2.1,r.2.2.2.2.1,r.2.2.2.2.2.1,())) fun r => some (r.1,true,()) else bif bl (ByteArray.extract x0 0 (toNat r.1)) == [62,61] then Option.bind (PF252 ()) fun r => Option.bind (PF157 (r_1.1,r_1.2.1,r_1.2.2.1,r_1.2.2.2.1,false,false,r.1,r.2.1,r.2.2.1,r.2.2.2.1,r.2.2.2.2.1,r.2.2.2.2.2.1,())) fun r => some (r.1,true,()) else bif bl (ByteArray.extract x0 0 (toNat r.1)) == [60] then Option.bind (PF253 ()) fun r => Option.bind (PF157 (r.1,r.2.1,r.2.2.1,r.2.2.2.1,r.2.2.2.2.1,r.2.2.2.2.2.1,r_1.1,r_1.2.1,r_1.2.2.1,r_1.2.2.2.1,false,false,())) fun r => some (r.1,true,()) else bif bl (ByteArray.extract x0 0 (toNat r.1)) == [60,61] then Option.bind (PF253 ()) fun r => Option.bind (PF157 (r.1,r.2.1,r.2.2.1,r.2.2.2.1,r.2.2.2.2.1,r.2.2.2.2.2.1,r_1.1,r_1.2.1,r_1.2.2.1,r_1.2.2.2.1,true,false,())) fun r => some (r.1,true,()) else bif bl (ByteArray.extract x0 0 (toNat r.1)) == [94] then Option.bind (PF254 (r_1.1,r_1.2.1,r_1.2.2.1,r_1.2.2.2.1,())) fun r => Option.bind (PF157 (r_1.1,r_1.2.1,r_1.2.2.1,r_1.2.2.2.1,false,false,r.1,r.2.1,r.2.2.1,r.2.2.2.1,r.2.2.2.2.1,r.2.2.2.2.2.1,())) fun r => some (r.1,true,()) else bif bl (ByteArray.extract x0 0 (toNat r.1)) == [126] then Option.bind (PF250 (r_1.1,r_1.2.1,r_1.2.2.1,r_1.2.2.2.1,ofNat 1,())) fun r => Option.bind (PF157 (r_1.1,r_1.2.1,r_1.2.2.1,r_1.2.2.2.1,false,false,r.1,r.2.1,r.2.2.1,r.2.2.2.1,r.2.2.2.2.1,r.2.2.2.2.2.1,())) fun r => some (r.1,true,()) else some ([],false,()) else bif bl (ByteArray.extract x0 0 (toNat r.1)) == [61] then Option.bind (PF157 (r_1.1,r_1.2.1,r_1.2.2.1,r_1.2.2.2.1,false,false,r_1.1,r_1.2.1,r_1.2.2.1,r_1.2.2.2.1,true,false,())) fun r => some (r.1,true,()) else bif bl (ByteArray.extract x0 0 (toNat r.1)) == [33,61] then Option.bind (PF157 (r_1.1,r_1.2.1,r_1.2.2.1,r_1.2.2.2.1,false,false,r_1.1,r_1.2.1,r_1.2.2.1,r_1.2.2.2.1,true,false,())) fun r => Option.bind (PF251 (r.1,())) fun r => some (r.1,true,()) else bif bl (ByteArray.extract x0 0 (toNat r.1)) == [62] then Option.bind (PF252 ()) fun r => Option.bind (PF157 (r_1.1,r_1.2.1,r_1.2.2.1,r_1.2.2.2.1,true,false,r.1,r.2.1,r.2.2.1,r.2.2.2.1,r.2.2.2.2.1,r.2.2.2.2.2.1,())) fun r => some (r.1,true,()) else bif bl (ByteArray.extract x0 0 (toNat r.1)) == [62,61] then Option.bind (PF252 ()) fun r => Option.bind (PF157 (r_1.1,r_1.2.1,r_1.2.2.1,r_1.2.2.2.1,false,false,r.1,r.2.1,r.2.2.1,r.2.2.2.1,r.2.2.2.2.1,r.2.2.2.2.2.1,())) fun r => some (r.1,true,()) else bif bl (ByteArray.extract x0 0 (toNat r.1)) == [60] then Option.bind (PF253 ()) fun r => Option.bind (PF157 (r.1,r.2.1,r.2.2.1,r.2.2.2.1,r.2.2.2.2.1,r.2.2.2.2.2.1,r_1.1,r_1.2.1,r_1.2.2.1,r_1.2.2.2.1,false,false,())) fun r => some (r.1,true,()) else bif bl (ByteArray.extract x0 0 (toNat r.1)) == [60,61] then Option.bind (PF253 ()) fun r => Option.bind (PF157 (r.1,r.2.1,r.2.2.1,r.2.2.2.1,r.2.2.2.2.1,r.2.2.2.2.2.1,r_1.1,r_1.2.1,r_1.2.2.1,r_1.2.2.2.1,true,false,())) fun r => some (r.1,true,()) else bif bl (ByteArray.extract x0 0 (toNat r.1)) == [94] then Option.bind (PF254 (r_1.1,r_1.2.1,r_1.2.2.1,r_1.2.2.2.1,())) fun r => Option.bind (PF157 (r_1.1,r_1.2.1,r_1.2.2.1,r_1.2.2.2.1,false,false,r.1,r.2.1,r.2.2.1,r.2.2.2.1,r.2.2.2.2.1,r.2.2.2.2.2.1,())) fun r => some (r.1,true,()) else bif bl (ByteArray.extract x0 0 (toNat r.1)) == [126] then Option.bind (PF250 (r_1.1,r_1.2.1,r_1.2.2.1,r_1.2.2.2.1,ofNat 1,())) fun r => Option.bind (PF157 (r_1.1,r_1.2.1,r_1.2.2.1,r_1.2.2.2.1,false,false,r.1,r.2.1,r.2.2.1,r.2.2.2.1,r.2.2.2.2.1,r.2.2.2.2.2.1,())) fun r => some (r.1,true,()) else some ([],false,()) else none else none
theorem PF208_ok:F208 = PF208:=by
 funext p
 obtain ⟨x0,⟨⟩⟩:=p
 unfold PF208
 rw [← PF157_ok,← PF241_ok,← PF250_ok,← PF251_ok,← PF252_ok,← PF253_ok,← PF254_ok,← PF91_ok]
 kernel_rfl
def PF156:ByteArray × Unit → Option (List R8 × Bool × Unit):=fun (x0,_) =>
 bif bl x0 == [42] then Option.bind (PF154 ()) fun r => some (r.1,true,()) else Option.bind (PF207 (x0,())) fun r => bif r.2.1 then some (r.1,true,()) else Option.bind (PF208 (x0,())) fun r => some (r.1,r.2.1,())
theorem PF156_ok:F156 = PF156:=by
 funext p
 obtain ⟨x0,⟨⟩⟩:=p
 unfold PF156
 rw [← PF154_ok,← PF207_ok,← PF208_ok]
 kernel_rfl
def PB158_0:List R8 × Int × Int × Int × Int × List R9 × Int × Int × Int × ByteArray × Bool × Bool × Int × Int × Int × ByteArray × Bool × Bool × List R9 × List R9 × Unit → Option ((List R8 × Int × Int × Int × Int × List R9 × Int × Int × Int × ByteArray × Bool × Bool × Int × Int × Int × ByteArray × Bool × Bool × List R9 × List R9 × Unit) ⊕ List R8 × Int × Int × List R9 × List R9 × Unit):=fun (x0,x1,x2,x3,x4,x5,x6,x7,x8,x9,x10,x11,x12,x13,x14,x15,x16,x17,x18,x19,_) =>
 bif decide (x4 < x3) then bif decide (ofNat 0 ≤ x4) && decide (x4 < ofNat (length x19)) then Option.bind x19[toNat x4]? fun y => Option.bind (PF102 (y.1,y.2.1,y.2.2.1,y.2.2.2.1,y.2.2.2.2.1,y.2.2.2.2.2.1,x6,x7,x8,x9,x10,x11,())) fun r => bif decide (r.1 > ofNat 0) then Option.bind (PF102 (y.2.2.2.2.2.2.1,y.2.2.2.2.2.2.2.1,y.2.2.2.2.2.2.2.2.1,y.2.2.2.2.2.2.2.2.2.1,y.2.2.2.2.2.2.2.2.2.2.1,y.2.2.2.2.2.2.2.2.2.2.2.1,x12,x13,x14,x15,x16,x17,())) fun r => bif decide (r.1 < ofNat 0) then bif decide (length x5 + length [(y.1,y.2.1,y.2.2.1,y.2.2.2.1,y.2.2.2.2.1,y.2.2.2.2.2.1,y.2.2.2.2.2.2.1,y.2.2.2.2.2.2.2.1,y.2.2.2.2.2.2.2.2.1,y.2.2.2.2.2.2.2.2.2.1,y.2.2.2.2.2.2.2.2.2.2.1,y.2.2.2.2.2.2.2.2.2.2.2.1,())] ≤ 1466015503701) then some (inl (x0,x1,x2,x3,wrap .i64 (x4 + ofNat 1),x5 ++ [(y.1,y.2.1,y.2.2.1,y.2.2.2.1,y.2.2.2.2.1,y.2.2.2.2.2.1,y.2.2.2.2.2.2.1,y.2.2.2.2.2.2.2.1,y.2.2.2.2.2.2.2.2.1,y.2.2.2.2.2.2.2.2.2.1,y.2.2.2.2.2.2.2.2.2.2.1,y.2.2.2.2.2.2.2.2.2.2.2.1,())],x6,x7,x8,x9,x10,x11,x12,x13,x14,x15,x16,x17,x18,x19,())) else none else bif decide (length x5 + length [(y.1,y.2.1,y.2.2.1,y.2.2.2.1,y.2.2.2.2.1,y.2.2.2.2.2.1,x12,x13,x14,x15,x16,x17,())] ≤ 1466015503701) then some (inl (x0,x1,x2,x3,wrap .i64 (x4 + ofNat 1),x5 ++ [(y.1,y.2.1,y.2.2.1,y.2.2.2.1,y.2.2.2.2.1,y.2.2.2.2.2.1,x12,x13,x14,x15,x16,x17,())],x6,x7,x8,x9,x10,x11,x12,x13,x14,x15,x16,x17,x18,x19,())) else none else Option.bind (PF102 (y.2.2.2.2.2.2.1,y.2.2.2.2.2.2.2.1,y.2.2.2.2.2.2.2.2.1,y.2.2.2.2.2.2.2.2.2.1,y.2.2.2.2.2.2.2.2.2.2.1,y.2.2.2.2.2.2.2.2.2.2.2.1,x12,x13,x14,x15,x16,x17,())) fun r => bif decide (r.1 < ofNat 0) then bif decide (length x5 + length [(x6,x7,x8,x9,x10,x11,y.2.2.2.2.2.2.1,y.2.2.2.2.2.2.2.1,y.2.2.2.2.2.2.2.2.1,y.2.2.2.2.2.2.2.2.2.1,y.2.2.2.2.2.2.2.2.2.2.1,y.2.2.2.2.2.2.2.2.2.2.2.1,())] ≤ 1466015503701) then some (inl (x0,x1,x2,x3,wrap .i64 (x4 + ofNat 1),x5 ++ [(x6,x7,x8,x9,x10,x11,y.2.2.2.2.2.2.1,y.2.2.2.2.2.2.2.1,y.2.2.2.2.2.2.2.2.1,y.2.2.2.2.2.2.2.2.2.1,y.2.2.2.2.2.2.2.2.2.2.1,y.2.2.2.2.2.2.2.2.2.2.2.1,())],x6,x7,x8,x9,x10,x11,x12,x13,x14,x15,x16,x17,x18,x19,())) else none else bif decide (length x5 + length [(x6,x7,x8,x9,x10,x11,x12,x13,x14,x15,x16,x17,())] ≤ 1466015503701) then some (inl (x0,x1,x2,x3,wrap .i64 (x4 + ofNat 1),x5 ++ [(x6,x7,x8,x9,x10,x11,x12,x13,x14,x15,x16,x17,())],x6,x7,x8,x9,x10,x11,x12,x13,x14,x15,x16,x17,x18,x19,())) else none else none else some (inr (x0,x1,x2,x5,x18,()))
theorem PB158_0_ok:B158_0 = PB158_0:=by
 funext p
 obtain ⟨x0,x1,x2,x3,x4,x5,x6,x7,x8,x9,x10,x11,x12,x13,x14,x15,x16,x17,x18,x19,⟨⟩⟩:=p
 unfold PB158_0
 rw [← PF102_ok]
 kernel_rfl
def PB158_1:List R8 × Int × Int × List R9 × List R9 × Unit → Option ((List R8 × Int × Int × List R9 × List R9 × Unit) ⊕ List R9 × Unit):=fun (x0,x1,x2,x3,x4,_) =>
 bif decide (x2 < x1) then bif decide (ofNat 0 ≤ x2) && decide (x2 < ofNat (length x4)) then Option.bind x4[toNat x2]? fun y => Option.bind (PF100 (x0,())) fun r => Option.bind (loop PB158_0 (x0,x1,x2,ofNat (length r.1),ofNat 0,x3,y.1,y.2.1,y.2.2.1,y.2.2.2.1,y.2.2.2.2.1,y.2.2.2.2.2.1,y.2.2.2.2.2.2.1,y.2.2.2.2.2.2.2.1,y.2.2.2.2.2.2.2.2.1,y.2.2.2.2.2.2.2.2.2.1,y.2.2.2.2.2.2.2.2.2.2.1,y.2.2.2.2.2.2.2.2.2.2.2.1,x4,r.1,())) fun r => some (inl (r.1,r.2.1,wrap .i64 (r.2.2.1 + ofNat 1),r.2.2.2.1,r.2.2.2.2.1,())) else none else some (inr (x3,()))
theorem PB158_1_ok:B158_1 = PB158_1:=by
 funext p
 obtain ⟨x0,x1,x2,x3,x4,⟨⟩⟩:=p
 unfold PB158_1
 rw [← PB158_0_ok,← PF100_ok]
 kernel_rfl
def PF158:List R8 × List R8 × Unit → Option (List R8 × Unit):=fun (x0,x1,_) =>
 Option.bind (PF100 (x0,())) fun r => Option.bind (loop PB158_1 (x1,ofNat (length r.1),ofNat 0,[],r.1,())) fun r => Option.bind (PF159 (r.1,())) fun r => some (r.1,())
theorem PF158_ok:F158 = PF158:=by
 funext p
 obtain ⟨x0,x1,⟨⟩⟩:=p
 unfold PF158
 rw [← PB158_1_ok,← PF100_ok,← PF159_ok]
 kernel_rfl
def PB96_0:List R8 × Bool × Int × ByteArray × ByteArray × Int × ByteArray × Int × Unit → Option ((List R8 × Bool × Int × ByteArray × ByteArray × Int × ByteArray × Int × Unit) ⊕ (List R8 × Bool × ByteArray × ByteArray × Int × ByteArray × Int × Unit) ⊕ (ByteArray × ByteArray × Int × ByteArray × Int × Unit)):=fun (x0,x1,x2,x3,x4,x5,x6,x7,_) =>
 bif x1 then Option.bind (PF156 (x4,())) fun r => bif !r.2.1 then some (inr (inl ([],false,x3,x4,x5,x6,x7,()))) else Option.bind (PF91 (x4,())) fun r_1 => Option.bind (PF155 (x3,x4,x5,x6,x7,())) fun r_2 => bif r_1.2.2.2.2.1 then bif r_2.1 then bif bl r_2.2.2.1 == [45] then Option.bind (PF155 (r_2.2.1,r_2.2.2.1,r_2.2.2.2.1,r_2.2.2.2.2.1,r_2.2.2.2.2.2.1,())) fun r => bif !r.1 then some (inr (inl ([],false,r.2.1,r.2.2.1,r.2.2.2.1,r.2.2.2.2.1,r.2.2.2.2.2.1,()))) else Option.bind (PF91 (r.2.2.1,())) fun r_3 => bif !r_3.2.2.2.2.1 then some (inr (inl ([],false,r.2.1,r.2.2.1,r.2.2.2.1,r.2.2.2.2.1,r.2.2.2.2.2.1,()))) else Option.bind (PF157 (r_1.1,r_1.2.1,r_1.2.2.1,r_1.2.2.2.1,false,false,r_3.1,r_3.2.1,r_3.2.2.1,r_3.2.2.2.1,true,false,())) fun r_4 => Option.bind (PF155 (r.2.1,r.2.2.1,r.2.2.2.1,r.2.2.2.2.1,r.2.2.2.2.2.1,())) fun r => Option.bind (PF158 (x0,r_4.1,())) fun r_5 => bif !r.1 then some (inr (inl (r_5.1,true,r.2.1,r.2.2.1,r.2.2.2.1,r.2.2.2.2.1,r.2.2.2.2.2.1,()))) else some (inl (r_5.1,r.1,wrap .i64 (x2 + ofNat 1),r.2.1,r.2.2.1,r.2.2.2.1,r.2.2.2.2.1,r.2.2.2.2.2.1,())) else Option.bind (PF158 (x0,r.1,())) fun r => bif !r_2.1 then some (inr (inl (r.1,true,r_2.2.1,r_2.2.2.1,r_2.2.2.2.1,r_2.2.2.2.2.1,r_2.2.2.2.2.2.1,()))) else some (inl (r.1,r_2.1,wrap .i64 (x2 + ofNat 1),r_2.2.1,r_2.2.2.1,r_2.2.2.2.1,r_2.2.2.2.2.1,r_2.2.2.2.2.2.1,())) else Option.bind (PF158 (x0,r.1,())) fun r => bif !r_2.1 then some (inr (inl (r.1,true,r_2.2.1,r_2.2.2.1,r_2.2.2.2.1,r_2.2.2.2.2.1,r_2.2.2.2.2.2.1,()))) else some (inl (r.1,r_2.1,wrap .i64 (x2 + ofNat 1),r_2.2.1,r_2.2.2.1,r_2.2.2.2.1,r_2.2.2.2.2.1,r_2.2.2.2.2.2.1,())) else Option.bind (PF158 (x0,r.1,())) fun r => bif !r_2.1 then some (inr (inl (r.1,true,r_2.2.1,r_2.2.2.1,r_2.2.2.2.1,r_2.2.2.2.2.1,r_2.2.2.2.2.2.1,()))) else some (inl (r.1,r_2.1,wrap .i64 (x2 + ofNat 1),r_2.2.1,r_2.2.2.1,r_2.2.2.2.1,r_2.2.2.2.2.1,r_2.2.2.2.2.2.1,())) else some (inr (inr (x3,x4,x5,x6,x7,())))
theorem PB96_0_ok:B96_0 = PB96_0:=by
 funext p
 obtain ⟨x0,x1,x2,x3,x4,x5,x6,x7,⟨⟩⟩:=p
 unfold PB96_0
 rw [← PF155_ok,← PF156_ok,← PF157_ok,← PF158_ok,← PF91_ok]
 kernel_rfl
def PF96:ByteArray × ByteArray × Int × ByteArray × Int × Unit → Option (List R8 × Bool × ByteArray × ByteArray × Int × ByteArray × Int × Unit):=fun (x0,x1,x2,x3,x4,_) =>
 Option.bind (PF154 ()) fun r => Option.bind (PF155 (x0,x1,x2,x3,x4,())) fun r_1 => Option.bind (loop PB96_0 (r.1,r_1.1,ofNat 0,r_1.2.1,r_1.2.2.1,r_1.2.2.2.1,r_1.2.2.2.2.1,r_1.2.2.2.2.2.1,())) fun r => elim (fun p => some (p.1,p.2.1,p.2.2.1,p.2.2.2.1,p.2.2.2.2.1,p.2.2.2.2.2.1,p.2.2.2.2.2.2.1,())) (fun p => some ([],false,p.1,p.2.1,p.2.2.1,p.2.2.2.1,p.2.2.2.2.1,())) r
theorem PF96_ok:F96 = PF96:=by
 funext p
 obtain ⟨x0,x1,x2,x3,x4,⟨⟩⟩:=p
 unfold PF96
 rw [← PB96_0_ok,← PF154_ok,← PF155_ok]
 kernel_rfl
def PF97:List (List R8) × Unit → Option (List R8 × Unit):=fun (x0,_) =>
 Option.bind (PF160 (x0,())) fun r => Option.bind (PF100v1 (r.1,())) fun r => Option.bind (PF159 (r.2.1,())) fun r => some (r.1,())
theorem PF97_ok:F97 = PF97:=by
 funext p
 obtain ⟨x0,⟨⟩⟩:=p
 unfold PF97
 rw [← PF100v1_ok,← PF159_ok,← PF160_ok]
 kernel_rfl
def PB62_0:ByteArray × List R8 × ByteArray × ByteArray × Int × ByteArray × Int × Unit → Option ((ByteArray × List R8 × ByteArray × ByteArray × Int × ByteArray × Int × Unit) ⊕ List R8 × Int × Int × Unit):=fun (x0,x1,x2,x3,x4,x5,x6,_) =>
 Option.bind (PF96 (x2,x3,x4,x5,x6,())) fun r => bif !r.2.1 then some (inr ([],r.2.2.2.2.1,ofNat 6,())) else Option.bind (PF97 ([x1,r.1],())) fun r_1 => bif r.2.2.2.2.1 == ofNat (size x0) then some (inr (r_1.1,ofNat 0,ofNat 0,())) else Option.bind (PF98 ((lit [124,124]),r.2.2.2.2.2.1,r.2.2.2.2.2.2.1,())) fun r_2 => bif !r_2.1 then some (inr ([],wrap .i64 (r.2.2.2.2.1 + ofNat 1),ofNat 6,())) else some (inl (x0,r_1.1,r.2.2.1,r.2.2.2.1,r.2.2.2.2.1,r_2.2.1,r_2.2.2.1,()))
theorem PB62_0_ok:B62_0 = PB62_0:=by
 funext p
 obtain ⟨x0,x1,x2,x3,x4,x5,x6,⟨⟩⟩:=p
 unfold PB62_0
 rw [← PF96_ok,← PF97_ok,← PF98_ok]
 kernel_rfl
def PF62:ByteArray × Unit → Option (List R8 × Int × Int × Unit):=fun (x0,_) =>
 Option.bind (PF95 (x0,())) fun r => Option.bind (loop PB62_0 (x0,[],x0,(lit []),ofNat 0,r.1,r.2.1,())) fun r => some (r.1,r.2.1,r.2.2.1,())
theorem PF62_ok:F62 = PF62:=by
 funext p
 obtain ⟨x0,⟨⟩⟩:=p
 unfold PF62
 rw [← PB62_0_ok,← PF95_ok]
 kernel_rfl
end
end Go.Vx.Z
/-! What the small functions answer in a world that is made: what is asked. -/
namespace Go.Vx.Z
open Go Go.Vx
set_option linter.unusedVariables false
set_option maxRecDepth 1000000
set_option maxHeartbeats 4000000
def verA:List Ver:=(List.range 7).flatMap verL
noncomputable def textV (v:Ver):ByteArray:=((PF20 (v.1,v.2.1,v.2.2.1,v.2.2.2.1,())).getD (lit [],())).1
noncomputable def textOK (v:Ver):Bool:=(PF20 (v.1,v.2.1,v.2.2.1,v.2.2.2.1,())).isSome &&
 ((match PF91 (textV v,()) with | some (a,b,c,p,k,_) => k && eqV (a,b,c,p,()) v | none => false) &&
 (match PF169 (textV v,()) with | some (a,b,c,p,k,_) => k && eqV (a,b,c,p,()) v | none => false))
noncomputable def emptyOK:Bool:=(match PF91 (lit [],()) with | some (_,_,_,_,k,_) => !k | none => false) && (match PF169 (lit [],()) with | some (_,_,_,_,k,_) => !k | none => false)
def Rev.ver (r:Rev):Ver:=(r.2.2.2.2.1,r.2.2.2.2.2.1,r.2.2.2.2.2.2.1,r.2.2.2.2.2.2.2.1,())
noncomputable def pseuP (r:Rev):=PF151 (r.2.2.2.1,r.2.2.2.2.1,r.2.2.2.2.2.1,r.2.2.2.2.2.2.1,r.2.2.2.2.2.2.2.1,r.2.2.2.2.2.2.2.2.1,r.2.1,())
noncomputable def pseuR (r:Rev):=PF57 (r.2.2.2.1,r.2.2.2.2.1,r.2.2.2.2.2.1,r.2.2.2.2.2.2.1,r.2.2.2.2.2.2.2.1,r.2.2.2.2.2.2.2.2.1,r.2.1,())
def id8 (i:Nat):ByteArray:=(lit ([48,49,50,51,52,53,54,55,56,57,97,98,99,100,101,102].extract i (i + 1)) ++ lit [56]) ++ lit (([48,48,49,49,50,50,51,51,52,52,53,53,54,54,55,55,56,56,57,57]:List UInt8).extract 0 (10 + (i + 8) % 9))
def stamp8 (i:Nat):ByteArray:=lit [50,48,49,57,48,49,48,49,48,48,48,48,48,UInt8.ofNat (48 + i)]
def verB:List Ver:=(List.range 7).map fun i => ((0:Int),(0:Int),(0:Int),stamp8 i ++ lit [45] ++ (id8 i).extract 0 12,())
def verD:List Ver:=verA ++ verB
noncomputable def verOfRev (r:Rev):Ver:=bif r.2.2.1 then Rev.ver r else match pseuR r with | some (a,b,c,p,_) => (a,b,c,p,()) | none => (0,0,0,lit [],())
noncomputable def revOK (r:Rev):Bool:=bif r.2.2.1 then verD.any (eqV (Rev.ver r)) else match pseuR r with
 | some (a,b,c,p,_) => verD.any (eqV (a,b,c,p,())) && (match pseuP r with | some (a',b',c',p',k,_) => k && eqV (a',b',c',p',()) (a,b,c,p,()) | none => false)
 | none => false
noncomputable def fitsB (p:ByteArray) (v:Ver):Bool:=((PF171 (p,v.1,v.2.1,v.2.2.1,v.2.2.2.1,())).getD (false,())).1
noncomputable def fitsOK (p:ByteArray) (v:Ver):Bool:=match PF93 (p,v.1,v.2.1,v.2.2.1,v.2.2.2.1,()) with
 | some (b,_) => (match PF171 (p,v.1,v.2.1,v.2.2.1,v.2.2.2.1,()) with | some (b',_) => b == b' | none => false)
 | none => false
noncomputable def rootOf (p:ByteArray):ByteArray:=((PF19 (p,())).getD (lit [],0,())).1
noncomputable def majOK (p:ByteArray):Bool:=match PF59 (p,()) with
 | some (r,_) => (match PF19 (p,()) with | some (r',_) => bs r == bs r' | none => false)
 | none => false
noncomputable def withB (x r:ByteArray):Bool:=((PF115 (x,r,())).getD (false,())).1
noncomputable def withOK (x r:ByteArray):Bool:=match PF60 (x,r,()) with
 | some (b,_) => (match PF115 (x,r,()) with | some (b',_) => b == b' | none => false)
 | none => false
def rootsK:List ByteArray:=[lit [97],lit [97,47,115,117,98],lit [98,47,99],lit [100],lit [101]]
def sufK:List ByteArray:=[lit [],lit [47,120],lit [47,120,47,121],lit [47,115,117,98],lit [47,118,50],lit [47,121]]
def withinD:List ByteArray:=[lit [42],lit [62,61,118,49,46,48,46,48],lit [60,118,49,46,50,46,48],lit [94,118,49,46,48,46,48],lit [126,118,49,46,49,46,48],lit [118,49,46,120],lit [120],lit [118,51,46,120,32,124,124,32,118,50,46,120]]
noncomputable def outsP (s:ByteArray) (v:Ver):Option Bool:=(PF62 (s,())).bind fun r => bif !r.2.2.1 == Int.ofNat 0 then some true else (PF63 (r.1,v.1,v.2.1,v.2.2.1,v.2.2.2.1,())).map fun b => !b.1
noncomputable def outsR (s:ByteArray) (v:Ver):Option Bool:=(PF69 (s,())).bind fun r => bif !r.2.2.1 == Int.ofNat 0 then some true else (PF70 (r.1,v.1,v.2.1,v.2.2.1,v.2.2.2.1,())).map fun b => !b.1
noncomputable def outOK (s:ByteArray) (v:Ver):Bool:=match outsP s v with
 | some b => (match outsR s v with | some b' => b == b' | none => false)
 | none => false
end Go.Vx.Z
namespace Go.Vx.Z
open Go Go.Vx
set_option maxRecDepth 1000000
set_option maxHeartbeats 4000000
theorem text_all:verA.all textOK = true:=by kernel_rfl
theorem empty_ok:emptyOK = true:=by kernel_rfl
theorem maj_all:pathsL.all majOK = true:=by kernel_rfl
end Go.Vx.Z
namespace Go.Vx.Z
open Go Go.Vx
set_option maxRecDepth 1000000
set_option maxHeartbeats 4000000
theorem rev_0:(revsK 0).all revOK = true:=by kernel_rfl
theorem rev_1:(revsK 1).all revOK = true:=by kernel_rfl
theorem rev_2:(revsK 2).all revOK = true:=by kernel_rfl
theorem rev_3:(revsK 3).all revOK = true:=by kernel_rfl
theorem rev_4:(revsK 4).all revOK = true:=by kernel_rfl
theorem rev_5:(revsK 5).all revOK = true:=by kernel_rfl
theorem rev_6:(revsK 6).all revOK = true:=by kernel_rfl
end Go.Vx.Z
namespace Go.Vx.Z
open Go Go.Vx
set_option maxRecDepth 1000000
set_option maxHeartbeats 4000000
theorem fits_all:(verD.all fun v => pathsL.all fun p => fitsOK p v) = true:=by kernel_rfl
end Go.Vx.Z
namespace Go.Vx.Z
open Go Go.Vx
set_option maxRecDepth 1000000
set_option maxHeartbeats 4000000
theorem with_all:(rootsK.all fun r => sufK.all fun s => pathsL.all fun p => withOK (r ++ s) (rootOf p)) = true:=by kernel_rfl
theorem with_zz:(pathsL.all fun p => withOK (lit [122,122]) (rootOf p)) = true:=by kernel_rfl
end Go.Vx.Z
namespace Go.Vx.Z
open Go Go.Vx
set_option maxRecDepth 1000000
set_option maxHeartbeats 4000000
theorem out_all:(withinD.all fun s => verD.all fun v => outOK s v) = true:=by kernel_rfl
end Go.Vx.Z
namespace Go.Vx.Z
open _root_.Int (ofNat toNat)
open IntKind (wrap)
open _root_.ByteArray (size)
open _root_.List (length)
open _root_.Sum (inl inr elim)
open Go Go.Vx Go.Proofs
set_option linter.unusedVariables false
set_option maxRecDepth 1000000
set_option maxHeartbeats 4000000
theorem F216_eq (x0:List R2) (x1:List R3) (x2:ByteArray):F216 (x0,x1,x2,()) =
 Option.bind (loop B216_0 (x2,ofNat 0,x0,x1,())) fun (r:Int × Unit ⊕ Unit) =>
  elim (fun (p:Int × Unit) => some (p.1,())) (fun (p:Unit) => some (Int.negSucc 0,())) r:=by kernel_rfl
theorem B216_0_eq (x0:ByteArray) (x1:Int) (x2:List R2) (x3:List R3):B216_0 (x0,x1,x2,x3,()) =
 bif decide (x1 < ofNat (length x2)) then
  bif decide (ofNat 0 ≤ x1) then
   Option.bind x2[toNat x1]?
    fun
     (y :
      ByteArray ×
       List
         (Int ×
          Int ×
           Int ×
            ByteArray ×
             List (ByteArray × Int × Int × Int × ByteArray × Unit) × ByteArray × ByteArray × Unit) ×
        Unit) =>
    bif bl y.1 == bl x0 then some (inr (inl (x1,())))
    else some (inl (x0,wrap .i64 (x1 + ofNat 1),x2,x3,()))
  else none
 else some (inr (inr ())):=by kernel_rfl
end Go.Vx.Z
/-! The document's releases. -/
namespace Go.Vx
open Go
set_option linter.unusedVariables false
theorem loop_idx {P E α:Type} {B:P → Option (P ⊕ E)} (xs:List α) (st:Nat → P) (p:α → Bool) (hit:Nat → α → E) (miss:E)
  (hs:∀ i (h:i < xs.length),B (st i) = some (bif p xs[i] then .inr (hit i xs[i]) else .inl (st (i + 1)))) (he:B (st xs.length) = some (.inr miss)) :
  ∃ e,loop B (st 0) = some e ∧ ((xs.find? p = none ∧ e = miss) ∨ ∃ (i:Nat) (h:i < xs.length),xs.find? p = some xs[i] ∧ p xs[i] = true ∧ (∀ j (hj:j < xs.length),j < i → p xs[j] = false) ∧ e = hit i xs[i]):=by
 have key:∀ (n i:Nat),xs.length - i = n → i ≤ xs.length → (∀ j (hj:j < xs.length),j < i → p xs[j] = false) → ∃ e,loop B (st i) = some e ∧ (((xs.drop i).find? p = none ∧ e = miss) ∨ ∃ (j:Nat) (h:j < xs.length),(xs.drop i).find? p = some xs[j] ∧ p xs[j] = true ∧ (∀ k (hk:k < xs.length),k < j → p xs[k] = false) ∧ e = hit j xs[j]):=by
  intro n
  induction n with
  | zero =>
   intro i h1 h2 _
   have:i = xs.length:=by omega
   subst this
   exact ⟨miss,loop_end he,.inl ⟨by simp,rfl⟩⟩
  | succ n ih =>
   intro i h1 h2 hbef
   have hlt:i < xs.length:=by omega
   have hb:=hs i hlt
   rw [List.drop_eq_getElem_cons hlt,List.find?_cons]
   cases hp:p xs[i] with
   | true =>
    rw [hp] at hb
    exact ⟨_,loop_end hb,.inr ⟨i,hlt,rfl,hp,hbef,rfl⟩⟩
   | false =>
    rw [hp] at hb
    obtain ⟨e,h3,h4⟩:=ih (i + 1) (by omega) hlt fun j hj hji => by
     by_cases hj':j = i
     ·subst hj'; exact hp
     ·exact hbef j hj (by omega)
    exact ⟨e,loop_step hb h3,h4⟩
 have:=key xs.length 0 (by omega) (by omega) (fun j _ h => by omega)
 simpa using this
end Go.Vx
namespace Go.Vx.Z
open Go Go.Vx
set_option linter.unusedVariables false
set_option maxRecDepth 100000
section
variable (md:ByteArray) (rq ex:List Req) (sw:List Swp) (w:List Mod) (rv:List Rev)
theorem F216_is (p:ByteArray) (h:w.length ≤ big):∃ e:Int,F216 (w,rv,p,()) = some (e,()) ∧ ((e = -1 ∧ modOf w p = none) ∨ ∃ (i:Nat) (hi:i < w.length),e = i ∧ modOf w p = some w[i]):=by
 rw [F216_eq]
 obtain ⟨e,h1,h2⟩:=loop_idx (B:=B216_0) w (fun i => (p,(i:Int),w,rv,())) (fun y => bs y.1 == bs p) (fun i _ => .inl ((i:Int),())) (.inr ()) (by
  intro i hi
  rw [B216_0_eq,lt_in hi,ge_zero,at_in hi,wrap_next hi (by simp only [big] at h; omega)]
  simp only [cond_true,Option.bind_some,beq_bs]
  cases bs w[i].1 == bs p <;> rfl) (by rw [B216_0_eq,lt_out]; rfl)
 have h1':loop B216_0 (p,Int.ofNat 0,w,rv,()) = some e:=h1
 rw [h1',Option.bind_some]
 rcases h2 with ⟨h3,rfl⟩ | ⟨i,hi,h3,_,_,rfl⟩
 ·exact ⟨-1,rfl,.inl ⟨rfl,h3⟩⟩
 ·exact ⟨(i:Int),rfl,.inr ⟨i,hi,rfl,h3⟩⟩
theorem F172_is (p:ByteArray) (v:Ver) (h:okW w):F172 (w,rv,p,v.1,v.2.1,v.2.2.1,v.2.2.2.1,()) =
  some ((relOf w p v).elim (0,0,0,lit [],[],lit [],lit [],false,()) fun y => (y.1,y.2.1,y.2.2.1,y.2.2.2.1,y.2.2.2.2.1,y.2.2.2.2.2.1,y.2.2.2.2.2.2.1,true,())):=by
 obtain ⟨e,h1,h2⟩:=F216_is w rv p h.1
 rw [F172_eq,h1,Option.bind_some]
 rcases h2 with ⟨rfl,h3⟩ | ⟨i,hi,rfl,h3⟩
 ·have:relOf w p v = none:=by unfold relOf relsOf; rw [h3]; rfl
  rw [this]
  rfl
 ·have hneg:decide ((i:Int) < Int.ofNat 0) = false:=by simp
  simp only
  rw [hneg,ge_zero,at_in hi]
  simp only [cond_false,cond_true,Option.bind_some]
  have hre:relsOf w p = w[i].2.1:=by unfold relsOf; rw [h3]; rfl
  have hl:w[i].2.1.length ≤ big:=(h.2 _ (List.getElem_mem hi)).1
  rw [show (Int.ofNat 0:Int) = ((0:Nat):Int) from rfl,loop_find (B:=B172_0) w[i].2.1 (fun j => (w[i].2.1,(j:Int),v.1,v.2.1,v.2.2.1,v.2.2.2.1,((0:Nat):Int),((0:Nat):Int),((0:Nat):Int),lit [],lit [],lit [],())) (fun y => eqV y.v v)
   (fun y => .inl (true,y.1,y.2.1,y.2.2.1,y.2.2.2.1,y.2.2.2.2.1,y.2.2.2.2.2.1,y.2.2.2.2.2.2.1,())) (.inr (((0:Nat):Int),((0:Nat):Int),((0:Nat):Int),lit [],lit [],lit [],())) ?_ ?_]
  ·unfold relOf
   rw [hre]
   cases w[i].2.1.find? fun y => eqV y.v v <;> rfl
  ·intro j hj
   rw [B172_0_eq,lt_in hj,ge_zero,at_in hj,wrap_next hj (by simp only [big] at hl; omega)]
   simp only [cond_true,Option.bind_some,beq_bs]
   show (bif eqV w[i].2.1[j].v v then some _ else some _) = _
   cases eqV w[i].2.1[j].v v <;> rfl
  ·rw [B172_0_eq,lt_out]; rfl
end
end Go.Vx.Z
/-! The document's comparison is the program's. -/
namespace Go.Vx.Z
open Go Go.Vx
set_option linter.unusedVariables false
set_option maxRecDepth 100000
theorem F173_is (a b:Int):F173 (a,b,()) = some (cmpI a b,()):=by
 rw [F173_eq]
 unfold cmpI
 by_cases h1:a < b
 ·simp [h1]
 ·by_cases h2:b < a
  ·simp [h1,h2]
  ·simp [h1,h2]
theorem F192_is (s:ByteArray) (hs:s.size ≤ 1099511627776):F192 (s,()) = some (allDig (bs s),()):=by
 rw [F192_eq]
 have hl:=bs_size s
 obtain ⟨e,h1,h2⟩:=loop_inv (B:=B192_0) (fun p => ∃ i:Nat,i ≤ s.size ∧ ((bs s).take i).all dig1 = true ∧ p = (s,(i:Int),())) (fun p => (Int.ofNat s.size - p.2.1).toNat)
  (fun e => (e = .inl (false,()) ∧ (bs s).all dig1 = false) ∨ (e = .inr (s,()) ∧ (bs s).all dig1 = true)) (by
   rintro p ⟨i,hi,ha,rfl⟩
   rw [B192_0_eq]
   by_cases hlt:i < s.size
   ·have hb:=bt_eq s i hlt
    have hil:i < (bs s).length:=by omega
    have h85:F141 (((bs s)[i].toNat:Int),()) = some (dig1 (bs s)[i],()):=by
     rw [F141_eq]
     unfold dig1
     by_cases h48:48 ≤ (bs s)[i].toNat
     ·rw [show decide (((bs s)[i].toNat:Int) ≥ Int.ofNat 48) = true by simp; omega,show decide (48 ≤ (bs s)[i].toNat) = true by simpa using h48]
      simp only [cond_true,Bool.true_and]
      congr 2
      simp only [Int.ofNat_eq_natCast,decide_eq_decide]
      omega
     ·rw [show decide (((bs s)[i].toNat:Int) ≥ Int.ofNat 48) = false by simp; omega,show decide (48 ≤ (bs s)[i].toNat) = false by simpa using h48]
      rfl
    rw [lt_in hlt,ge_zero,hb,wrap_next hlt (by omega)]
    simp only [Bool.and_self,cond_true]
    rw [h85,Option.bind_some]
    cases hd:dig1 (bs s)[i] with
    | true => exact .inl ⟨_,rfl,⟨i + 1,by omega,by rw [all_take _ _ hil,ha,hd]; rfl,rfl⟩,by simp; omega⟩
    | false =>
     refine .inr ⟨_,rfl,.inl ⟨rfl,?_⟩⟩
     rw [List.all_eq_false]
     exact ⟨(bs s)[i],List.getElem_mem hil,by simp [hd]⟩
   ·have:i = s.size:=by omega
    subst this
    rw [lt_out]
    refine .inr ⟨_,rfl,.inr ⟨rfl,?_⟩⟩
    rwa [List.take_of_length_le (by omega)] at ha) (s,Int.ofNat 0,()) ⟨0,by omega,by simp,rfl⟩
 rw [h1,Option.bind_some]
 rcases h2 with ⟨rfl,h3⟩ | ⟨rfl,h3⟩
 ·show some (false,()) = _
  unfold allDig
  rw [h3]; rfl
 ·show some (!bl s == [],()) = _
  unfold allDig
  rw [h3,bs_toList]
  cases bs s <;> rfl
theorem F174_is (a b:ByteArray) (ha:a.size ≤ 1099511627776) (hb:b.size ≤ 1099511627776):F174 (a,b,()) = some (cmpW (bs a) (bs b),()):=by
 rw [F174_eq,F192_is a ha,F192_is b hb,wordKey_or]
 simp only [Option.bind_some,bs_toList,bytesLess_eq,F173_is,bs_size]
 have r:=lin_cmpT.rng (bs a) (bs b)
 have e0:=lin_cmpT.eq0 (bs a) (bs b)
 have hT:(bif decide (cmpT (bs a) (bs b) = -1) then some (Int.negSucc 0,()) else bif !(decide (cmpT (bs a) (bs b) = -1) || bs a == bs b) then some (Int.ofNat 1,()) else some (Int.ofNat 0,())) = some (cmpT (bs a) (bs b),()):=by
  by_cases h1:cmpT (bs a) (bs b) = -1
  ·simp [h1]
  ·by_cases h2:bs a = bs b
   ·simp [h2,lin_cmpT.self]
   ·have h3:cmpT (bs a) (bs b) ≠ 0:=fun h => h2 (e0.1 h)
    have h4:cmpT (bs a) (bs b) = 1:=by omega
    have e:(bs a == bs b) = false:=by simpa using h2
    rw [h4,e]; rfl
 cases hda:allDig (bs a) <;> cases hdb:allDig (bs b)
 ·simp only [Bool.not_false,Bool.false_eq_true,if_false,cond_false,beq_self_eq_true,Bool.not_true]
  exact hT
 ·rfl
 ·rfl
 ·simp only [cond_true,if_true,beq_self_eq_true,Bool.not_true,cond_false]
  by_cases hl:(bs a).length = (bs b).length
  ·have e1:(!Int.ofNat (bs a).length == Int.ofNat (bs b).length) = false:=by rw [hl]; simp
   have e2:cmpI ((bs a).length:Int) ((bs b).length:Int) = 0:=(lin_cmpI.eq0 _ _).2 (by omega)
   rw [e1,cond_false,e2]
   exact hT
  ·have e1:(!Int.ofNat (bs a).length == Int.ofNat (bs b).length) = true:=by
    rw [Bool.not_eq_true',← Bool.not_eq_true]
    intro h
    have h':Int.ofNat (bs a).length = Int.ofNat (bs b).length:=by simpa using h
    exact hl (Int.ofNat.inj h')
   have e2:cmpI ((bs a).length:Int) ((bs b).length:Int) ≠ 0:=fun h => hl (by have:=(lin_cmpI.eq0 _ _).1 h; omega)
   rw [e1,cond_true]
   unfold orC
   rw [if_neg e2]
   first | rfl | (rw [F173_is]; rfl)
end Go.Vx.Z
/-! The document's splitting. -/
namespace Go.Vx
open Go
set_option linter.unusedVariables false
theorem splitB_cons (c x:UInt8) (z:List UInt8):splitB c (x :: z) = if x == c then [] :: splitB c z else match splitB c z with
  | [] => [[x]]
  | w :: ws => (x :: w) :: ws:=rfl
theorem splitB_no (c:UInt8):∀ (l:List UInt8),c ∉ l → splitB c l = [l]
 | [],_ => rfl
 | x :: l,h => by
  simp only [List.mem_cons,not_or] at h
  have ih:=splitB_no c l h.2
  have hx:(x == c) = false:=by simpa using fun e => h.1 e.symm
  rw [splitB_cons,hx,ih]
  rfl
theorem splitB_yes (c:UInt8):∀ (k l:List UInt8),c ∉ k → splitB c (k ++ c :: l) = k :: splitB c l
 | [],l,_ => by
  rw [List.nil_append,splitB_cons,beq_self_eq_true]
  rfl
 | x :: k,l,h => by
  simp only [List.mem_cons,not_or] at h
  have ih:=splitB_yes c k l h.2
  have hx:(x == c) = false:=by simpa using fun e => h.1 e.symm
  rw [List.cons_append,splitB_cons,hx,ih]
  rfl
end Go.Vx
namespace Go.Vx.Z
open Go Go.Vx
set_option linter.unusedVariables false
set_option maxRecDepth 100000
theorem F142_is (s:ByteArray) (hs:s.size ≤ 1099511627000):F142 (s,()) = some (splitDot s,()):=by
 rw [F142_eq]
 have hl:=bs_size s
 obtain ⟨⟨st,parts⟩,h1,h2⟩:=loop_upto (B:=B142_0) (s.size + 1) (fun i (b:Nat × List ByteArray) => (s,(b.1:Int),(i:Int),b.2,())) (fun b => (b.2,()))
  (fun i b => b.1 ≤ i ∧ b.2.length ≤ i ∧ ((i ≤ s.size ∧ b.1 ≤ s.size ∧ (46:UInt8) ∉ ((bs s).take i).drop b.1 ∧ b.2.map bs ++ splitB 46 ((bs s).drop b.1) = splitB 46 (bs s)) ∨ (i = s.size + 1 ∧ b.2.map bs = splitB 46 (bs s)))) (by
   rintro i hi ⟨st,parts⟩ ⟨q1,q2,q3⟩
   simp only at q1 q2 q3 ⊢
   rcases q3 with ⟨g1,g2,g3,g4⟩ | ⟨g1,_⟩
   ·have e0:decide ((i:Int) ≤ Int.ofNat s.size) = true:=by simp; omega
    have e2:∀ z:ByteArray,decide (parts.length + [z].length ≤ 8796093022208) = true:=by
     intro z; rw [decide_eq_true_eq]; simp only [List.length_cons,List.length_nil]; omega
    have e3:(decide (Int.ofNat 0 ≤ (st:Int)) && (decide ((st:Int) ≤ (i:Int)) && true)) = true:=by simp; omega
    have hw:IntKind.wrap IntKind.i64 ((i:Int) + Int.ofNat 1) = ((i + 1:Nat):Int):=wrap64s i (by omega)
    have hex:bs (s.extract st i) = ((bs s).take i).drop st:=bs_extract s st i
    rw [B142_0_eq,e0,cond_true,hw,e3,Int.toNat_natCast,Int.toNat_natCast,e2]
    simp only [cond_true]
    by_cases he:i = s.size
    ·subst he
     rw [show ((s.size:Int) == Int.ofNat s.size) = true by simp,cond_true]
     refine ⟨(s.size + 1,parts ++ [s.extract st s.size]),rfl,by simp only; omega,by simp; omega,.inr ⟨rfl,?_⟩⟩
     simp only [List.map_append,List.map_cons,List.map_nil]
     rw [hex,← g4]
     congr 1
     rw [List.take_of_length_le (by omega)] at g3 ⊢
     exact (splitB_no 46 _ g3).symm
    ·have hlt:i < s.size:=by omega
     have hil:i < (bs s).length:=by omega
     have hne0:((i:Int) == Int.ofNat s.size) = false:=by
      rw [← Bool.not_eq_true]
      intro h
      have h':(i:Int) = Int.ofNat s.size:=by simpa using h
      simp at h'
      omega
     rw [hne0,cond_false]
     rw [ge_zero,lt_in hlt,bt_eq s i hlt]
     simp only [Bool.and_self,cond_true]
     have htk:((bs s).take (i + 1)).drop st = ((bs s).take i).drop st ++ [(bs s)[i]]:=by
      rw [List.take_succ_eq_append_getElem hil,List.drop_append_of_le_length (by simp; omega)]
     by_cases hd:(bs s)[i] = 46
     ·rw [hd,show (((46:UInt8).toNat:Int) == Int.ofNat 46) = true from rfl,cond_true]
      refine ⟨(i + 1,parts ++ [s.extract st i]),rfl,by simp only; omega,by simp; omega,.inl ⟨by omega,by simp only; omega,by simp,?_⟩⟩
      simp only [List.map_append,List.map_cons,List.map_nil]
      rw [hex,← g4,List.append_assoc]
      congr 1
      have:(bs s).drop st = ((bs s).take i).drop st ++ 46 :: (bs s).drop (i + 1):=by
       rw [← hd,← List.drop_eq_getElem_cons hil,← List.drop_append_of_le_length (by simp; omega),List.take_append_drop]
      rw [this,splitB_yes 46 _ _ g3]
      rfl
     ·have hne:(((bs s)[i].toNat:Int) == Int.ofNat 46) = false:=by
       rw [← Bool.not_eq_true]
       intro h
       have h':((bs s)[i].toNat:Int) = Int.ofNat 46:=by simpa using h
       apply hd
       apply UInt8.toNat_inj.1
       show (bs s)[i].toNat = 46
       simp at h'; omega
      rw [hne,cond_false]
      refine ⟨(st,parts),rfl,by simp only; omega,by simp only; omega,.inl ⟨by omega,g2,?_,g4⟩⟩
      rw [htk,List.mem_append]
      rintro (h | h)
      ·exact g3 h
      ·exact hd (List.mem_singleton.1 h).symm
   ·omega) (by
   rintro ⟨st,parts⟩ ⟨q1,q2,q3⟩
   rw [B142_0_eq,show decide (((s.size + 1:Nat):Int) ≤ Int.ofNat s.size) = false by simp; omega]
   rfl) 0 (0,[]) (by omega) ⟨Nat.le_refl _,by simp,.inl ⟨by omega,by simp,by simp,by simp⟩⟩
 rw [show (Int.ofNat 0:Int) = ((0:Nat):Int) from rfl,h1,Option.bind_some]
 rcases h2.2.2 with ⟨g1,_⟩ | ⟨_,g2⟩
 ·omega
 ·simp only at g2 ⊢
  have:parts = splitDot s:=by
   unfold splitDot
   rw [← g2,List.map_map]
   have:(lit ∘ bs) = id:=by funext x; exact lit_bs x
   rw [this,List.map_id]
  rw [this]
end Go.Vx.Z
/-! The document's comparison of versions. -/
namespace Go.Vx.Z
open Go Go.Vx
set_option linter.unusedVariables false
set_option maxRecDepth 100000
theorem B117_1_is (xs ys:List ByteArray) (hx:xs.length ≤ 1099511627776) (hxs:∀ x ∈ xs,x.size ≤ 1099511627776) (hys:∀ x ∈ ys,x.size ≤ 1099511627776) :
  ∃ e,loop B117_1 (xs,ys,Int.ofNat 0,()) = some e ∧ ((∃ c,e = .inl (c,()) ∧ c ≠ 0 ∧ listC cmpW (xs.map bs) (ys.map bs) = c) ∨ (e = .inr (xs,ys,()) ∧ listC cmpW (xs.map bs) (ys.map bs) = cmpI (xs.length:Int) (ys.length:Int))):=by
 refine loop_inv (B:=B117_1) (fun p => ∃ i:Nat,i ≤ xs.length ∧ i ≤ ys.length ∧ listC cmpW (xs.map bs) (ys.map bs) = listC cmpW ((xs.drop i).map bs) ((ys.drop i).map bs) ∧ p = (xs,ys,(i:Int),())) (fun p => (Int.ofNat xs.length - p.2.2.1).toNat)
  (fun e => (∃ c,e = .inl (c,()) ∧ c ≠ 0 ∧ listC cmpW (xs.map bs) (ys.map bs) = c) ∨ (e = .inr (xs,ys,()) ∧ listC cmpW (xs.map bs) (ys.map bs) = cmpI (xs.length:Int) (ys.length:Int))) (by
   rintro p ⟨i,hi,hj,hc,rfl⟩
   rw [B117_1_eq]
   by_cases h1:i < xs.length
   ·by_cases h2:i < ys.length
    ·rw [lt_in h1,lt_in h2,ge_zero,at_in h1,at_in h2,wrap_next h1 (by omega)]
     simp only [cond_true,Option.bind_some]
     rw [F174_is _ _ (hxs _ (List.getElem_mem h1)) (hys _ (List.getElem_mem h2)),Option.bind_some]
     rw [List.drop_eq_getElem_cons h1,List.drop_eq_getElem_cons h2,List.map_cons,List.map_cons] at hc
     have hc':listC cmpW (xs.map bs) (ys.map bs) = orC (cmpW (bs xs[i]) (bs ys[i])) (listC cmpW ((xs.drop (i + 1)).map bs) ((ys.drop (i + 1)).map bs)):=hc
     by_cases h0:cmpW (bs xs[i]) (bs ys[i]) = 0
     ·rw [show (!cmpW (bs xs[i]) (bs ys[i]) == Int.ofNat 0) = false by rw [h0]; rfl]
      refine .inl ⟨_,rfl,⟨i + 1,h1,h2,?_,rfl⟩,by simp; omega⟩
      rw [hc',h0]; rfl
     ·have hb:(!cmpW (bs xs[i]) (bs ys[i]) == Int.ofNat 0) = true:=by
       rw [Bool.not_eq_true',← Bool.not_eq_true]
       intro h; exact h0 (by simpa using h)
      rw [hb]
      refine .inr ⟨_,rfl,.inl ⟨_,rfl,h0,?_⟩⟩
      rw [hc']; unfold orC; rw [if_neg h0]
    ·have:i = ys.length:=by omega
     subst this
     rw [lt_in h1,lt_out]
     refine .inr ⟨_,rfl,.inr ⟨rfl,?_⟩⟩
     rw [hc,List.drop_length,List.drop_eq_getElem_cons h1]
     have:cmpI (xs.length:Int) (ys.length:Int) = 1:=by unfold cmpI; rw [if_neg (by omega),if_pos (by omega)]
     rw [this]
     rfl
   ·have:i = xs.length:=by omega
    subst this
    rw [lt_out]
    refine .inr ⟨_,rfl,.inr ⟨rfl,?_⟩⟩
    rw [hc,List.drop_length]
    by_cases h2:xs.length < ys.length
    ·rw [List.drop_eq_getElem_cons h2]
     have:cmpI (xs.length:Int) (ys.length:Int) = -1:=by unfold cmpI; rw [if_pos (by omega)]
     rw [this]
     rfl
    ·have he:xs.length = ys.length:=by omega
     rw [he,List.drop_length,(lin_cmpI.eq0 _ _).2 rfl]
     rfl) _ ⟨0,by omega,by omega,by simp,rfl⟩
theorem splitDot_map (s:ByteArray):(splitDot s).map bs = splitB 46 (bs s):=by
 unfold splitDot
 rw [List.map_map]
 have:(bs ∘ lit) = id:=by funext x; exact bs_lit x
 rw [this,List.map_id]
theorem pre_is (x y:ByteArray) (hx:x.size ≤ 1099511627000) (hy:y.size ≤ 1099511627000) :
  (bif bl x == [] then
        Option.bind
         (F173 (Int.ofNat (ByteArray.size y),Int.ofNat (ByteArray.size x),()))
         fun (r:Int × Unit) =>
         some
          (IntKind.wrap IntKind.i64
            (r.1 *
             bif
               decide
                (IntKind.wrap IntKind.i64
                  (Int.ofNat (ByteArray.size x) +
                   Int.ofNat (ByteArray.size y)) <
                 Int.ofNat 1) then
              IntKind.wrap IntKind.i64
               (Int.ofNat (ByteArray.size x) + Int.ofNat (ByteArray.size y))
             else Int.ofNat 1),
           ())
       else
        bif bl y == [] then
         Option.bind
          (F173
           (Int.ofNat (ByteArray.size y),Int.ofNat (ByteArray.size x),()))
          fun (r:Int × Unit) =>
          some
           (IntKind.wrap IntKind.i64
             (r.1 *
              bif
                decide
                 (IntKind.wrap IntKind.i64
                   (Int.ofNat (ByteArray.size x) +
                    Int.ofNat (ByteArray.size y)) <
                  Int.ofNat 1) then
               IntKind.wrap IntKind.i64
                (Int.ofNat (ByteArray.size x) + Int.ofNat (ByteArray.size y))
              else Int.ofNat 1),
            ())
        else
         Option.bind (F142 (x,())) fun (r:List ByteArray × Unit) =>
          Option.bind (F142 (y,())) fun (r_3:List ByteArray × Unit) =>
           Option.bind (loop B117_1 (r.1,r_3.1,Int.ofNat 0,()))
            fun (r:Int × Unit ⊕ List ByteArray × List ByteArray × Unit) =>
            Sum.elim (fun (p:Int × Unit) => some (p.1,()))
             (fun (p:List ByteArray × List ByteArray × Unit) =>
              Option.bind (F173 (Int.ofNat (List.length p.1),Int.ofNat (List.length p.2.1),()))
               fun (r:Int × Unit) => some (r.1,()))
             r) = some (cmpP (bs x) (bs y),()):=by
 have lx:=bs_size x
 have ly:=bs_size y
 rw [bs_toList,bs_toList,F173_is,Option.bind_some]
 have hsum:IntKind.wrap IntKind.i64 (Int.ofNat x.size + Int.ofNat y.size) = ((x.size + y.size:Nat):Int):=by
  rw [show Int.ofNat x.size + Int.ofNat y.size = ((x.size + y.size:Nat):Int) by simp]
  exact wrap64 (by omega) (by omega)
 rw [hsum]
 cases hbx:bs x with
 | nil =>
  rw [hbx] at lx
  have hx0:x.size = 0:=lx
  cases hby:bs y with
  | nil =>
   rw [hby] at ly
   have hy0:y.size = 0:=ly
   rw [hx0,hy0]
   rfl
  | cons b l =>
   rw [hby] at ly
   have hy1:0 < y.size:=by rw [ly]; simp
   have e1:cmpI (Int.ofNat y.size) (Int.ofNat x.size) = 1:=by unfold cmpI; rw [if_neg (by simp; omega),if_pos (by simp; omega)]
   have e2:decide (((x.size + y.size:Nat):Int) < Int.ofNat 1) = false:=by simp; omega
   rw [e1,e2]
   rfl
 | cons a k =>
  rw [hbx] at lx
  have hx1:0 < x.size:=by rw [lx]; simp
  cases hby:bs y with
  | nil =>
   rw [hby] at ly
   have hy0:y.size = 0:=ly
   have e1:cmpI (Int.ofNat y.size) (Int.ofNat x.size) = -1:=by unfold cmpI; rw [if_pos (by simp; omega)]
   have e2:decide (((x.size + y.size:Nat):Int) < Int.ofNat 1) = false:=by simp; omega
   rw [e1,e2]
   rfl
  | cons b l =>
   show (Option.bind (F142 (x,())) _) = _
   rw [F142_is x hx,Option.bind_some,F142_is y hy,Option.bind_some]
   obtain ⟨e,h1,h2⟩:=B117_1_is (splitDot x) (splitDot y) (by
    have h:=splitB_length 46 (bs x)
    have hc:=List.count_le_length (a:=(46:UInt8)) (l:=bs x)
    unfold splitDot
    rw [List.length_map,h,hbx] at *
    omega) (fun z hz => by have:=splitDot_sizes x z hz; omega) (fun z hz => by have:=splitDot_sizes y z hz; omega)
   rw [splitDot_map,splitDot_map,hbx,hby] at h2
   have hP:cmpP (a :: k) (b :: l) = listC cmpW (splitB 46 (a :: k)) (splitB 46 (b :: l)):=rfl
   simp only
   rw [h1,Option.bind_some,hP]
   rcases h2 with ⟨c,rfl,_,h3⟩ | ⟨rfl,h3⟩
   ·rw [h3]; rfl
   ·rw [h3]
    show (Option.bind (F173 _) _) = _
    rw [F173_is]
    rfl
end Go.Vx.Z
/-! The document's comparison of versions is the program's. -/
namespace Go.Vx.Z
open Go Go.Vx
set_option linter.unusedVariables false
set_option maxRecDepth 100000
theorem F117_is (a b:Ver) (ha:okV a = true) (hb:okV b = true):F117 (a.1,a.2.1,a.2.2.1,a.2.2.2.1,b.1,b.2.1,b.2.2.1,b.2.2.2.1,()) = some (cmpV a b,()):=by
 have ha':a.2.2.2.1.size ≤ 1099511627000:=of_decide_eq_true ha
 have hb':b.2.2.2.1.size ≤ 1099511627000:=of_decide_eq_true hb
 have hV:cmpV a b = orC (cmpI a.1 b.1) (orC (cmpI a.2.1 b.2.1) (orC (cmpI a.2.2.1 b.2.2.1) (cmpP (bs a.2.2.2.1) (bs b.2.2.2.1)))):=rfl
 rw [F117_eq,F173_is,Option.bind_some,F173_is,Option.bind_some,F173_is,Option.bind_some]
 simp only
 generalize hc1:cmpI a.1 b.1 = c1 at hV
 generalize hc2:cmpI a.2.1 b.2.1 = c2 at hV
 generalize hc3:cmpI a.2.2.1 b.2.2.1 = c3 at hV
 have hst:∀ (i:Nat) (c:Int),[c1,c2,c3][i]? = some c → B117_0 ((i:Int),a.1,a.2.1,a.2.2.1,a.2.2.2.1,b.1,b.2.1,b.2.2.1,b.2.2.2.1,[c1,c2,c3],()) =
   some (if c = 0 then .inl (((i + 1:Nat):Int),a.1,a.2.1,a.2.2.1,a.2.2.2.1,b.1,b.2.1,b.2.2.1,b.2.2.2.1,[c1,c2,c3],()) else .inr (.inl (c,()))):=by
  intro i c hc
  have hi:i < 3:=(List.getElem?_eq_some_iff.1 hc).1
  rw [B117_0_eq,show decide ((i:Int) < Int.ofNat 3) = true by simp; omega,ge_zero,Int.toNat_natCast,hc,wrap_next hi (by omega)]
  simp only [cond_true,Option.bind_some]
  by_cases h0:c = 0
  ·rw [if_pos h0,show (!c == Int.ofNat 0) = false by rw [h0]; rfl]; rfl
  ·have hb0:(!c == Int.ofNat 0) = true:=by
    rw [Bool.not_eq_true',← Bool.not_eq_true]
    intro h; exact h0 (by simpa using h)
   rw [if_neg h0,hb0]; rfl
 have s0:=hst 0 c1 rfl
 have s1:=hst 1 c2 rfl
 have s2:=hst 2 c3 rfl
 have s3:B117_0 (((3:Nat):Int),a.1,a.2.1,a.2.2.1,a.2.2.2.1,b.1,b.2.1,b.2.2.1,b.2.2.2.1,[c1,c2,c3],()) = some (.inr (.inr (a.1,a.2.1,a.2.2.1,a.2.2.2.1,b.1,b.2.1,b.2.2.1,b.2.2.2.1,()))):=by
  rw [B117_0_eq]; rfl
 rw [show (Int.ofNat 0:Int) = ((0:Nat):Int) from rfl]
 by_cases h1:c1 = 0
 ·rw [if_pos h1] at s0
  by_cases h2:c2 = 0
  ·rw [if_pos h2] at s1
   by_cases h3:c3 = 0
   ·rw [if_pos h3] at s2
    rw [loop_step s0 (loop_step s1 (loop_step s2 (loop_end s3))),Option.bind_some]
    have hp:=pre_is a.2.2.2.1 b.2.2.2.1 ha' hb'
    refine hp.trans ?_
    rw [hV,h1,h2,h3]; rfl
   ·rw [if_neg h3] at s2
    rw [loop_step s0 (loop_step s1 (loop_end s2)),Option.bind_some,hV,h1,h2]
    show some (c3,()) = some (orC c3 _,())
    unfold orC; rw [if_neg h3]
  ·rw [if_neg h2] at s1
   rw [loop_step s0 (loop_end s1),Option.bind_some,hV,h1]
   show some (c2,()) = some (orC c2 _,())
   unfold orC; rw [if_neg h2]
 ·rw [if_neg h1] at s0
  rw [loop_end s0,Option.bind_some,hV]
  show some (c1,()) = some (orC c1 _,())
  unfold orC; rw [if_neg h1]
end Go.Vx.Z
/-! Revisions; a lock's version at a path. -/
namespace Go.Vx.Z
open Go Go.Vx
set_option linter.unusedVariables false
set_option maxRecDepth 100000
def AnsV (r:Option (Int × Int × Int × ByteArray × Bool × Unit)) (o:Option Ver):Prop:=∃ a b c p,(r = some (a,b,c,p,o.isSome,())) ∧ ∀ v,o = some v → (a,b,c,p,()) = v
def hitR (p id:ByteArray) (r:Rev):Bool:=bs r.1 == bs p && (decide (12 ≤ id.size) && (decide (id.size ≤ r.2.1.size) && bs (ByteArray.extract r.2.1 0 id.size) == bs id))
noncomputable def revOf (rv:List Rev) (p id:ByteArray):Option Ver:=if (rv.filter (hitR p id)).length = 1 then (rv.filter (hitR p id)).getLast?.map verOfRev else none
theorem F195_is (s p:ByteArray):F195 (s,p,()) = some (decide (p.size ≤ s.size) && bs (ByteArray.extract s 0 p.size) == bs p,()):=by
 rw [F195_eq]
 by_cases h:p.size ≤ s.size
 ·have e1:decide (Int.ofNat s.size ≥ Int.ofNat p.size) = true:=by simp; omega
  have e2:decide (Int.ofNat 0 ≤ Int.ofNat p.size) = true:=by simp
  rw [e1,e2,decide_eq_true h,beq_bs]
  rfl
 ·have e1:decide (Int.ofNat s.size ≥ Int.ofNat p.size) = false:=by simp; omega
  rw [e1,decide_eq_false h]
  rfl
theorem F145_is (s p:ByteArray):F145 (s,p,()) = some (decide (p.size ≤ s.size) && bs (ByteArray.extract s 0 p.size) == bs p,()):=by rw [F145_eq,F195_is]; rfl
theorem revK_ok (n:Nat) (hn:n ≤ 7):∀ r ∈ revsL n,revOK r = true:=by
 intro r hr
 unfold revsL at hr
 rw [List.mem_flatMap] at hr
 obtain ⟨i,hi,hr⟩:=hr
 have hi:=List.mem_range.1 hi
 have:i < 7:=by omega
 match i,this with
 | 0,_ => exact List.all_eq_true.1 rev_0 r hr
 | 1,_ => exact List.all_eq_true.1 rev_1 r hr
 | 2,_ => exact List.all_eq_true.1 rev_2 r hr
 | 3,_ => exact List.all_eq_true.1 rev_3 r hr
 | 4,_ => exact List.all_eq_true.1 rev_4 r hr
 | 5,_ => exact List.all_eq_true.1 rev_5 r hr
 | 6,_ => exact List.all_eq_true.1 rev_6 r hr
theorem rev_pseudo {r:Rev} (h:revOK r = true):verOfRev r ∈ verD ∧ (r.2.2.1 = false → AnsV (F151 (r.2.2.2.1,r.2.2.2.2.1,r.2.2.2.2.2.1,r.2.2.2.2.2.2.1,r.2.2.2.2.2.2.2.1,r.2.2.2.2.2.2.2.2.1,r.2.1,())) (some (verOfRev r)) ∧
  ∃ k,F57 (r.2.2.2.1,r.2.2.2.2.1,r.2.2.2.2.2.1,r.2.2.2.2.2.2.1,r.2.2.2.2.2.2.2.1,r.2.2.2.2.2.2.2.2.1,r.2.1,()) = some ((verOfRev r).1,(verOfRev r).2.1,(verOfRev r).2.2.1,(verOfRev r).2.2.2.1,k,())):=by
 have any_mem:∀ v:Ver,verD.any (eqV v) = true → v ∈ verD:=fun v hv => by
  obtain ⟨u,hu,he⟩:=List.any_eq_true.1 hv
  rw [eqV_iff.1 he]; exact hu
 unfold revOK at h
 unfold verOfRev
 cases hb:r.2.2.1 with
 | true => rw [hb] at h; exact ⟨any_mem _ h,fun hc => by cases hc⟩
 | false =>
  rw [hb] at h
  simp only [cond_false] at h ⊢
  cases hr:pseuR r with
  | none => rw [hr] at h; cases h
  | some q =>
   obtain ⟨a,b,c,p,k,⟨⟩⟩:=q
   rw [hr] at h
   simp only [Bool.and_eq_true] at h
   refine ⟨any_mem _ h.1,fun _ => ?_⟩
   have h2:=h.2
   cases hp:pseuP r with
   | none => rw [hp] at h2; cases h2
   | some q =>
    obtain ⟨a',b',c',p',k',⟨⟩⟩:=q
    rw [hp] at h2
    simp only [Bool.and_eq_true] at h2
    have he:=eqV_iff.1 h2.2
    injection he with e1 he
    injection he with e2 he
    injection he with e3 he
    injection he with e4 he
    subst e1 e2 e3 e4
    have hk:k' = true:=h2.1
    subst hk
    unfold pseuP at hp
    unfold pseuR at hr
    rw [PF151_ok,PF57_ok]
    exact ⟨⟨_,_,_,_,hp,fun v hv => by injection hv⟩,k,hr⟩
theorem F92_is (w:List Mod) (rv:List Rev) (p id:ByteArray) (hl:rv.length ≤ 1000000) (hrv:∀ r ∈ rv,revOK r = true):AnsV (F92 (w,rv,p,id,())) (revOf rv p id):=by
 rw [F92_eq]
 have hloop:loop B92_0 (p,id,rv,Int.ofNat rv.length,Int.ofNat 0,Int.ofNat 0,Int.ofNat 0,Int.ofNat 0,lit [],[],()) = some (Int.ofNat 0,Int.ofNat 0,Int.ofNat 0,lit [],rv.filter (hitR p id),()):=by
  have:=loop_fold (B:=B92_0) rv (fun i (b:List Rev) => (p,id,rv,Int.ofNat rv.length,(i:Int),Int.ofNat 0,Int.ofNat 0,Int.ofNat 0,lit [],b,())) (fun b r => bif hitR p id r then b ++ [r] else b)
   (fun b => (Int.ofNat 0,Int.ofNat 0,Int.ofNat 0,lit [],b,())) [] (fun i b => b.length ≤ i) (Nat.le_refl _) (by
    intro i hi b hb
    constructor
    ·rw [B92_0_eq,lt_in hi,ge_zero,at_in hi,wrap_next hi (by omega)]
     simp only [cond_true,Option.bind_some,beq_bs,F145_is]
     have e1:decide (b.length + [(rv[i].1,rv[i].2.1,rv[i].2.2.1,rv[i].2.2.2.1,rv[i].2.2.2.2.1,rv[i].2.2.2.2.2.1,rv[i].2.2.2.2.2.2.1,rv[i].2.2.2.2.2.2.2.1,rv[i].2.2.2.2.2.2.2.2.1,())].length ≤ 1599289640401) = true:=by rw [decide_eq_true_eq]; simp; omega
     rw [e1]
     have e2:decide (Int.ofNat id.size ≥ Int.ofNat 12) = decide (12 ≤ id.size):=by rw [Bool.eq_iff_iff]; simp; omega
     rw [e2]
     unfold hitR
     cases bs rv[i].1 == bs p with
     | false => rfl
     | true =>
      cases decide (12 ≤ id.size) with
      | false => rfl
      | true =>
       cases (decide (id.size ≤ rv[i].2.1.size) && bs (ByteArray.extract rv[i].2.1 0 id.size) == bs id) with
       | false => rfl
       | true => rfl
    ·cases hitR p id rv[i] with
     | false => simp only [cond_false]; omega
     | true => simp only [cond_true,List.length_append,List.length_cons,List.length_nil]; omega) (fun b _ => by rw [B92_0_eq,lt_out]; rfl)
  have hf:∀ (l:List Rev) b,l.foldl (fun b r => bif hitR p id r then b ++ [r] else b) b = b ++ l.filter (hitR p id):=by
   intro l
   induction l with
   | nil => intro b; simp
   | cons x l ih =>
    intro b
    rw [List.foldl_cons,ih,List.filter_cons]
    cases hitR p id x <;> simp
  rw [hf,List.nil_append] at this
  exact this
 rw [hloop,Option.bind_some]
 simp only
 unfold revOf
 by_cases h1:(rv.filter (hitR p id)).length = 1
 ·obtain ⟨r,hr⟩:=List.length_eq_one_iff.1 h1
  have hmem:r ∈ rv:=(List.mem_filter.1 (by rw [hr]; simp:r ∈ rv.filter (hitR p id))).1
  obtain ⟨g1,g2⟩:=rev_pseudo (hrv r hmem)
  rw [if_pos h1,hr]
  simp only [List.length_cons,List.length_nil,List.getElem?_cons_zero,Option.bind_some,List.getLast?_singleton,Option.map_some]
  show AnsV (bif r.2.2.1 then _ else _) _
  cases hb:r.2.2.1 with
  | true =>
   refine ⟨_,_,_,_,rfl,fun v hv => ?_⟩
   injection hv with hv
   rw [← hv]
   unfold verOfRev
   rw [hb]
   rfl
  | false =>
   obtain ⟨⟨a,b,c,q,h2,h3⟩,_⟩:=g2 hb
   rw [h2]
   exact ⟨a,b,c,q,rfl,h3⟩
 ·rw [if_neg h1]
  have:(!Int.ofNat (rv.filter (hitR p id)).length == Int.ofNat 1) = true:=by simp; omega
  rw [this]
  exact ⟨_,_,_,_,rfl,fun v hv => by cases hv⟩
end Go.Vx.Z
/-! The document's revisions; versions of texts. -/
namespace Go.Vx.Z
open Go Go.Vx
set_option linter.unusedVariables false
set_option maxRecDepth 100000
theorem foldl_last {α β:Type} (p:α → Bool) (g:α → β):∀ (l:List α) (n:Nat) (v:β),l.foldl (fun (b:Nat × β) r => bif p r then (b.1 + 1,g r) else b) (n,v) = (n + (l.filter p).length,((l.filter p).getLast?.map g).getD v):=by
 intro l
 induction l with
 | nil => intro n v; rfl
 | cons x l ih =>
  intro n v
  rw [List.foldl_cons]
  cases hx:p x with
  | false => rw [cond_false,ih,List.filter_cons,hx]; rfl
  | true =>
   rw [cond_true,ih,List.filter_cons,hx]
   simp only [if_true,List.length_cons]
   congr 1
   ·omega
   ·cases hl:l.filter p with
    | nil => rfl
    | cons y m =>
     rw [List.getLast?_cons_cons]
     cases hg:(y :: m).getLast? with
     | none => simp at hg
     | some z => rfl
theorem F170_is (w:List Mod) (rv:List Rev) (p id:ByteArray) (hl:rv.length ≤ 1000000) (hrv:∀ r ∈ rv,revOK r = true):AnsV (F170 (w,rv,p,id,())) (revOf rv p id):=by
 rw [F170_eq]
 have hloop:∃ v:Ver,loop B170_0 (p,id,Int.ofNat 0,Int.ofNat 0,w,rv,Int.ofNat 0,Int.ofNat 0,Int.ofNat 0,lit [],Int.ofNat 0,Int.ofNat 0,Int.ofNat 0,lit [],()) = some (((rv.filter (hitR p id)).length:Int),Int.ofNat 0,Int.ofNat 0,Int.ofNat 0,lit [],v.1,v.2.1,v.2.2.1,v.2.2.2.1,()) ∧ ∀ u,(rv.filter (hitR p id)).getLast?.map verOfRev = some u → v = u:=by
  have:=loop_fold (B:=B170_0) rv (fun i (b:Nat × Ver) => (p,id,(b.1:Int),(i:Int),w,rv,Int.ofNat 0,Int.ofNat 0,Int.ofNat 0,lit [],b.2.1,b.2.2.1,b.2.2.2.1,b.2.2.2.2.1,())) (fun b r => bif hitR p id r then (b.1 + 1,verOfRev r) else b)
   (fun b => ((b.1:Int),Int.ofNat 0,Int.ofNat 0,Int.ofNat 0,lit [],b.2.1,b.2.2.1,b.2.2.2.1,b.2.2.2.2.1,())) (0,(0,0,0,lit [],())) (fun i b => b.1 ≤ i) (Nat.le_refl _) (by
    intro i hi b hb
    constructor
    ·rw [B170_0_eq,lt_in hi,ge_zero,at_in hi,wrap_next hi (by omega)]
     simp only [cond_true,Option.bind_some,beq_bs]
     have e0:decide (Int.ofNat id.size < Int.ofNat 12) = !decide (12 ≤ id.size):=by rw [Bool.eq_iff_iff]; simp; omega
     have e1:decide (Int.ofNat rv[i].2.1.size < Int.ofNat id.size) = !decide (id.size ≤ rv[i].2.1.size):=by rw [Bool.eq_iff_iff]; simp
     rw [e0,e1]
     unfold hitR
     cases h1:bs rv[i].1 == bs p with
     | false => rfl
     | true =>
      cases h2:decide (12 ≤ id.size) with
      | false => rfl
      | true =>
       cases h3:decide (id.size ≤ rv[i].2.1.size) with
       | false => rfl
       | true =>
        have h3':=of_decide_eq_true h3
        have e2:(decide (Int.ofNat 0 ≤ Int.ofNat id.size) && decide (Int.ofNat id.size ≤ Int.ofNat rv[i].2.1.size)) = true:=by simp; omega
        rw [e2]
        have e3:(Int.ofNat id.size).toNat = id.size:=rfl
        rw [e3]
        have ew:IntKind.wrap IntKind.i64 ((b.1:Int) + Int.ofNat 1) = ((b.1 + 1:Nat):Int):=by
         rw [show (b.1:Int) + Int.ofNat 1 = (b.1:Int) + 1 by simp]
         exact wrap64s b.1 (by omega)
        rw [ew]
        cases h4:bs (ByteArray.extract rv[i].2.1 0 id.size) == bs id with
        | false => rfl
        | true =>
         obtain ⟨g1,g2⟩:=rev_pseudo (hrv rv[i] (List.getElem_mem hi))
         cases h5:rv[i].2.2.1 with
         | true =>
          have:verOfRev rv[i] = Rev.ver rv[i]:=by unfold verOfRev; rw [h5]; rfl
          rw [this]
          rfl
         | false =>
          obtain ⟨_,k,g3⟩:=g2 h5
          simp only [Bool.not_true,Bool.not_false,cond_true,cond_false,Bool.and_self,g3,Option.bind_some]
    ·cases hitR p id rv[i] with
     | false => simp only [cond_false]; omega
     | true => simp only [cond_true]; omega) (fun b _ => by rw [B170_0_eq,lt_out]; rfl)
  rw [foldl_last] at this
  simp only [Nat.zero_add] at this
  refine ⟨((rv.filter (hitR p id)).getLast?.map verOfRev).getD (0,0,0,lit [],()),this,fun u hu => by rw [hu]; rfl⟩
 obtain ⟨v,h1,h2⟩:=hloop
 rw [h1,Option.bind_some]
 simp only
 unfold revOf
 by_cases h3:(rv.filter (hitR p id)).length = 1
 ·have e1:(!((rv.filter (hitR p id)).length:Int) == Int.ofNat 1) = false:=by rw [h3]; rfl
  rw [e1,if_pos h3]
  obtain ⟨r,hr⟩:=List.length_eq_one_iff.1 h3
  rw [hr] at h2 ⊢
  have:=h2 _ rfl
  exact ⟨_,_,_,_,rfl,fun u hu => by rw [this]; injection hu⟩
 ·have e1:(!((rv.filter (hitR p id)).length:Int) == Int.ofNat 1) = true:=by simp; omega
  rw [e1,if_neg h3]
  exact ⟨_,_,_,_,rfl,fun v hv => by cases hv⟩
theorem revOf_dom {rv:List Rev} {p id:ByteArray} {v:Ver} (hrv:∀ r ∈ rv,revOK r = true) (h:revOf rv p id = some v):v ∈ verD:=by
 unfold revOf at h
 split at h
 ·cases hl:(rv.filter (hitR p id)).getLast? with
  | none => rw [hl] at h; cases h
  | some r =>
   rw [hl] at h
   injection h with h
   rw [← h]
   exact (rev_pseudo (hrv r (List.mem_filter.1 (List.mem_of_getLast? hl)).1)).1
 ·cases h
def GoodT (s:ByteArray):Prop:=s = lit [] ∨ ∃ v ∈ verA,s = textV v
noncomputable def parseT (s:ByteArray):Option Ver:=match PF169 (s,()) with
 | some (a,b,c,p,true,_) => some (a,b,c,p,())
 | _ => none
theorem parse_good {s:ByteArray} (h:GoodT s):AnsV (F91 (s,())) (parseT s) ∧ AnsV (F169 (s,())) (parseT s) ∧ ∀ v,parseT s = some v → v ∈ verD:=by
 rw [PF91_ok,PF169_ok]
 rcases h with rfl | ⟨v,hv,rfl⟩
 ·have h:=empty_ok
  unfold emptyOK at h
  simp only [Bool.and_eq_true] at h
  obtain ⟨h1,h2⟩:=h
  unfold parseT
  cases hp:PF91 (lit [],()) with
  | none => rw [hp] at h1; cases h1
  | some q =>
   obtain ⟨a,b,c,p,k,⟨⟩⟩:=q
   rw [hp] at h1
   have hk:k = false:=by simpa using h1
   subst hk
   cases hr:PF169 (lit [],()) with
   | none => rw [hr] at h2; cases h2
   | some q =>
    obtain ⟨a',b',c',p',k,⟨⟩⟩:=q
    rw [hr] at h2
    have hk:k = false:=by simpa using h2
    subst hk
    exact ⟨⟨_,_,_,_,rfl,fun v hv => by cases hv⟩,⟨_,_,_,_,rfl,fun v hv => by cases hv⟩,fun v hv => by cases hv⟩
 ·have h:=List.all_eq_true.1 text_all v hv
  unfold textOK at h
  simp only [Bool.and_eq_true] at h
  obtain ⟨_,h1,h2⟩:=h
  unfold parseT
  cases hp:PF91 (textV v,()) with
  | none => rw [hp] at h1; cases h1
  | some q =>
   obtain ⟨a,b,c,p,k,⟨⟩⟩:=q
   rw [hp] at h1
   simp only [Bool.and_eq_true] at h1
   have e1:=eqV_iff.1 h1.2
   have hk:k = true:=h1.1
   subst hk
   cases hr:PF169 (textV v,()) with
   | none => rw [hr] at h2; cases h2
   | some q =>
    obtain ⟨a',b',c',p',k,⟨⟩⟩:=q
    rw [hr] at h2
    simp only [Bool.and_eq_true] at h2
    have e2:=eqV_iff.1 h2.2
    have hk:k = true:=h2.1
    subst hk
    refine ⟨⟨_,_,_,_,rfl,fun u hu => ?_⟩,⟨_,_,_,_,rfl,fun u hu => by injection hu⟩,fun u hu => ?_⟩
    ·injection hu with hu; rw [e1,← hu,e2]
    ·injection hu with hu; rw [← hu,e2]; exact List.mem_append_left _ hv
end Go.Vx.Z
/-! A lock's version at a path. -/
namespace Go.Vx.Z
open Go Go.Vx
set_option linter.unusedVariables false
set_option maxRecDepth 100000
theorem fits_is {p:ByteArray} {v:Ver} (hp:p ∈ pathsL) (hv:v ∈ verD):F93 (p,v.1,v.2.1,v.2.2.1,v.2.2.2.1,()) = some (fitsB p v,()) ∧ F171 (p,v.1,v.2.1,v.2.2.1,v.2.2.2.1,()) = some (fitsB p v,()):=by
 have h:=List.all_eq_true.1 (List.all_eq_true.1 fits_all v hv) p hp
 rw [PF93_ok,PF171_ok]
 unfold fitsOK at h
 unfold fitsB
 cases h1:PF93 (p,v.1,v.2.1,v.2.2.1,v.2.2.2.1,()) with
 | none => rw [h1] at h; cases h
 | some q =>
  obtain ⟨b,⟨⟩⟩:=q
  rw [h1] at h
  cases h2:PF171 (p,v.1,v.2.1,v.2.2.1,v.2.2.2.1,()) with
  | none => rw [h2] at h; cases h
  | some q =>
   obtain ⟨b',⟨⟩⟩:=q
   rw [h2] at h
   have hb:b = b':=by simpa using h
   subst hb
   exact ⟨rfl,rfl⟩
noncomputable def chkOf (w:List Mod) (p f:ByteArray) (v:Ver):Option Ver:=if fitsB p v = true ∧ fitsB f v = true ∧ (relOf w f v).isSome = true then some v else none
section
variable {w:List Mod} {rv:List Rev} {p f:ByteArray} {R:Option (Int × Int × Int × ByteArray × Bool × Unit)} {o:Option Ver}
theorem tailP_is (hw:okW w) (hp:p ∈ pathsL) (hf:f ∈ pathsL) (h:AnsV R o) (hd:∀ v,o = some v → v ∈ verD) :
  AnsV (Option.bind R fun r => bif !r.2.2.2.2.1 then some (Int.ofNat 0,Int.ofNat 0,Int.ofNat 0,(lit []),false,()) else Option.bind (F93 (p,r.1,r.2.1,r.2.2.1,r.2.2.2.1,())) fun r_1 => bif !r_1.1 then some (Int.ofNat 0,Int.ofNat 0,Int.ofNat 0,(lit []),false,()) else Option.bind (F93 (f,r.1,r.2.1,r.2.2.1,r.2.2.2.1,())) fun r_2 => bif !r_2.1 then some (Int.ofNat 0,Int.ofNat 0,Int.ofNat 0,(lit []),false,()) else Option.bind (F94 (w,rv,f,r.1,r.2.1,r.2.2.1,r.2.2.2.1,())) fun r_3 => some (r.1,r.2.1,r.2.2.1,r.2.2.2.1,r_3.2.2.2.2.2.2.2.1,())) (o.bind (chkOf w p f)):=by
 obtain ⟨a,b,c,q,rfl,h2⟩:=h
 rw [Option.bind_some]
 simp only
 cases o with
 | none => exact ⟨_,_,_,_,rfl,fun v hv => by cases hv⟩
 | some v =>
  have hv:=hd v rfl
  have e:=h2 v rfl
  subst e
  simp only [Option.isSome_some,Bool.not_true,cond_false]
  have g1:=(fits_is hp hv).1
  have g2:=(fits_is hf hv).1
  have g3:=F94_is w rv f (a,b,c,q,()) hw
  simp only at g1 g2 g3
  rw [g1,Option.bind_some]
  simp only
  cases k1:fitsB p (a,b,c,q,()) with
  | false =>
   rw [show (some (a,b,c,q,())).bind (chkOf w p f) = none from if_neg (by simp [k1])]
   exact ⟨_,_,_,_,rfl,fun v hv => by cases hv⟩
  | true =>
   simp only [Bool.not_true,cond_false]
   rw [g2,Option.bind_some]
   cases k2:fitsB f (a,b,c,q,()) with
   | false =>
    rw [show (some (a,b,c,q,())).bind (chkOf w p f) = none from if_neg (by simp [k2])]
    exact ⟨_,_,_,_,rfl,fun v hv => by cases hv⟩
   | true =>
    simp only [Bool.not_true,cond_false]
    rw [g3,Option.bind_some]
    cases k3:relOf w f (a,b,c,q,()) with
    | none =>
     rw [show (some (a,b,c,q,())).bind (chkOf w p f) = none from if_neg (by simp [k3])]
     exact ⟨_,_,_,_,rfl,fun v hv => by cases hv⟩
    | some y =>
     rw [show (some (a,b,c,q,())).bind (chkOf w p f) = some (a,b,c,q,()) from if_pos (by simp [k1,k2,k3])]
     exact ⟨_,_,_,_,rfl,fun v hv => by injection hv⟩
theorem tailR_is (hw:okW w) (hp:p ∈ pathsL) (hf:f ∈ pathsL) (h:AnsV R o) (hd:∀ v,o = some v → v ∈ verD) :
  AnsV (Option.bind R fun r => bif !r.2.2.2.2.1 then some (Int.ofNat 0,Int.ofNat 0,Int.ofNat 0,(lit []),false,()) else Option.bind (F171 (p,r.1,r.2.1,r.2.2.1,r.2.2.2.1,())) fun r_1 => bif !r_1.1 then some (Int.ofNat 0,Int.ofNat 0,Int.ofNat 0,(lit []),false,()) else Option.bind (F171 (f,r.1,r.2.1,r.2.2.1,r.2.2.2.1,())) fun r_2 => bif !r_2.1 then some (Int.ofNat 0,Int.ofNat 0,Int.ofNat 0,(lit []),false,()) else Option.bind (F172 (w,rv,f,r.1,r.2.1,r.2.2.1,r.2.2.2.1,())) fun r_3 => some (r.1,r.2.1,r.2.2.1,r.2.2.2.1,r_3.2.2.2.2.2.2.2.1,())) (o.bind (chkOf w p f)):=by
 obtain ⟨a,b,c,q,rfl,h2⟩:=h
 rw [Option.bind_some]
 simp only
 cases o with
 | none => exact ⟨_,_,_,_,rfl,fun v hv => by cases hv⟩
 | some v =>
  have hv:=hd v rfl
  have e:=h2 v rfl
  subst e
  simp only [Option.isSome_some,Bool.not_true,cond_false]
  have g1:=(fits_is hp hv).2
  have g2:=(fits_is hf hv).2
  have g3:=F172_is (w:=w) (rv:=rv) f (a,b,c,q,()) hw
  simp only at g1 g2 g3
  rw [g1,Option.bind_some]
  simp only
  cases k1:fitsB p (a,b,c,q,()) with
  | false =>
   rw [show (some (a,b,c,q,())).bind (chkOf w p f) = none from if_neg (by simp [k1])]
   exact ⟨_,_,_,_,rfl,fun v hv => by cases hv⟩
  | true =>
   simp only [Bool.not_true,cond_false]
   rw [g2,Option.bind_some]
   cases k2:fitsB f (a,b,c,q,()) with
   | false =>
    rw [show (some (a,b,c,q,())).bind (chkOf w p f) = none from if_neg (by simp [k2])]
    exact ⟨_,_,_,_,rfl,fun v hv => by cases hv⟩
   | true =>
    simp only [Bool.not_true,cond_false]
    rw [g3,Option.bind_some]
    cases k3:relOf w f (a,b,c,q,()) with
    | none =>
     rw [show (some (a,b,c,q,())).bind (chkOf w p f) = none from if_neg (by simp [k3])]
     exact ⟨_,_,_,_,rfl,fun v hv => by cases hv⟩
    | some y =>
     rw [show (some (a,b,c,q,())).bind (chkOf w p f) = some (a,b,c,q,()) from if_pos (by simp [k1,k2,k3])]
     exact ⟨_,_,_,_,rfl,fun v hv => by injection hv⟩
end
abbrev Lock:=ByteArray × ByteArray × ByteArray × ByteArray × ByteArray × Unit
noncomputable def fromOf (x:Lock) (p:ByteArray):ByteArray:=if bl x.2.2.2.2.1 = [] then p else x.2.2.2.2.1
noncomputable def atOf (w:List Mod) (rv:List Rev) (x:Lock) (p:ByteArray):Option Ver:=
 (if bl x.2.2.1 = [] then parseT x.2.1 else revOf rv (fromOf x p) x.2.2.1).bind (chkOf w p (fromOf x p))
structure GoodL (x:Lock):Prop where
 ver:GoodT x.2.1
 src:x.2.2.2.2.1 = lit [] ∨ x.2.2.2.2.1 ∈ pathsL
theorem bl_nil {s:ByteArray}:(bl s == []) = decide (bl s = []):=by cases bl s <;> rfl
theorem at_is {w:List Mod} {rv:List Rev} {x:Lock} {p:ByteArray} (hw:okW w) (hl:rv.length ≤ 1000000) (hrv:∀ r ∈ rv,revOK r = true) (hx:GoodL x) (hp:p ∈ pathsL) :
  AnsV (F61 (w,rv,x.1,x.2.1,x.2.2.1,x.2.2.2.1,x.2.2.2.2.1,p,())) (atOf w rv x p) ∧ AnsV (F116 (w,rv,x.1,x.2.1,x.2.2.1,x.2.2.2.1,x.2.2.2.2.1,p,())) (atOf w rv x p):=by
 obtain ⟨h1,h2,h3⟩:=parse_good hx.ver
 have hf:fromOf x p ∈ pathsL:=by
  unfold fromOf
  rcases hx.src with h | h
  ·rw [if_pos (by rw [h]; rfl)]; exact hp
  ·split
   ·exact hp
   ·exact h
 rw [F61_eq,F116_eq]
 have key:∀ f,f ∈ pathsL → f = fromOf x p → (AnsV (Option.bind (F91 (x.2.1,())) fun r => bif !bl x.2.2.1 == [] then Option.bind (F92 (w,rv,f,x.2.2.1,())) fun r => bif !r.2.2.2.2.1 then some (Int.ofNat 0,Int.ofNat 0,Int.ofNat 0,(lit []),false,()) else Option.bind (F93 (p,r.1,r.2.1,r.2.2.1,r.2.2.2.1,())) fun r_1 => bif !r_1.1 then some (Int.ofNat 0,Int.ofNat 0,Int.ofNat 0,(lit []),false,()) else Option.bind (F93 (f,r.1,r.2.1,r.2.2.1,r.2.2.2.1,())) fun r_2 => bif !r_2.1 then some (Int.ofNat 0,Int.ofNat 0,Int.ofNat 0,(lit []),false,()) else Option.bind (F94 (w,rv,f,r.1,r.2.1,r.2.2.1,r.2.2.2.1,())) fun r_3 => some (r.1,r.2.1,r.2.2.1,r.2.2.2.1,r_3.2.2.2.2.2.2.2.1,()) else bif !r.2.2.2.2.1 then some (Int.ofNat 0,Int.ofNat 0,Int.ofNat 0,(lit []),false,()) else Option.bind (F93 (p,r.1,r.2.1,r.2.2.1,r.2.2.2.1,())) fun r_1 => bif !r_1.1 then some (Int.ofNat 0,Int.ofNat 0,Int.ofNat 0,(lit []),false,()) else Option.bind (F93 (f,r.1,r.2.1,r.2.2.1,r.2.2.2.1,())) fun r_2 => bif !r_2.1 then some (Int.ofNat 0,Int.ofNat 0,Int.ofNat 0,(lit []),false,()) else Option.bind (F94 (w,rv,f,r.1,r.2.1,r.2.2.1,r.2.2.2.1,())) fun r_3 => some (r.1,r.2.1,r.2.2.1,r.2.2.2.1,r_3.2.2.2.2.2.2.2.1,())) (atOf w rv x p)) ∧ (AnsV (Option.bind (F169 (x.2.1,())) fun r => bif !bl x.2.2.1 == [] then Option.bind (F170 (w,rv,f,x.2.2.1,())) fun r => bif !r.2.2.2.2.1 then some (Int.ofNat 0,Int.ofNat 0,Int.ofNat 0,(lit []),false,()) else Option.bind (F171 (p,r.1,r.2.1,r.2.2.1,r.2.2.2.1,())) fun r_1 => bif !r_1.1 then some (Int.ofNat 0,Int.ofNat 0,Int.ofNat 0,(lit []),false,()) else Option.bind (F171 (f,r.1,r.2.1,r.2.2.1,r.2.2.2.1,())) fun r_2 => bif !r_2.1 then some (Int.ofNat 0,Int.ofNat 0,Int.ofNat 0,(lit []),false,()) else Option.bind (F172 (w,rv,f,r.1,r.2.1,r.2.2.1,r.2.2.2.1,())) fun r_3 => some (r.1,r.2.1,r.2.2.1,r.2.2.2.1,r_3.2.2.2.2.2.2.2.1,()) else bif !r.2.2.2.2.1 then some (Int.ofNat 0,Int.ofNat 0,Int.ofNat 0,(lit []),false,()) else Option.bind (F171 (p,r.1,r.2.1,r.2.2.1,r.2.2.2.1,())) fun r_1 => bif !r_1.1 then some (Int.ofNat 0,Int.ofNat 0,Int.ofNat 0,(lit []),false,()) else Option.bind (F171 (f,r.1,r.2.1,r.2.2.1,r.2.2.2.1,())) fun r_2 => bif !r_2.1 then some (Int.ofNat 0,Int.ofNat 0,Int.ofNat 0,(lit []),false,()) else Option.bind (F172 (w,rv,f,r.1,r.2.1,r.2.2.1,r.2.2.2.1,())) fun r_3 => some (r.1,r.2.1,r.2.2.1,r.2.2.2.1,r_3.2.2.2.2.2.2.2.1,())) (atOf w rv x p)):=by
  intro f hf he
  subst he
  unfold atOf
  cases hb:(bl x.2.2.1 == []) with
  | true =>
   rw [bl_nil] at hb
   rw [if_pos (of_decide_eq_true hb)]
   simp only [Bool.not_true,cond_false]
   exact ⟨tailP_is hw hp hf h1 h3,tailR_is hw hp hf h2 h3⟩
  | false =>
   rw [bl_nil] at hb
   rw [if_neg (of_decide_eq_false hb)]
   simp only [Bool.not_false,cond_true]
   obtain ⟨a,b,c,q,e1,_⟩:=h1
   obtain ⟨a',b',c',q',e2,_⟩:=h2
   rw [e1,e2,Option.bind_some,Option.bind_some]
   exact ⟨tailP_is hw hp hf (F92_is w rv _ _ hl hrv) fun v hv => revOf_dom hrv hv,tailR_is hw hp hf (F170_is w rv _ _ hl hrv) fun v hv => revOf_dom hrv hv⟩
 cases hb:(bl x.2.2.2.2.1 == []) with
 | true =>
  rw [bl_nil] at hb
  simp only [Bool.not_true,cond_false]
  exact key p hp (by unfold fromOf; rw [if_pos (of_decide_eq_true hb)])
 | false =>
  rw [bl_nil] at hb
  simp only [Bool.not_false,cond_true]
  have e:x.2.2.2.2.1 = fromOf x p:=by unfold fromOf; rw [if_neg (of_decide_eq_false hb)]
  exact key _ (by rw [e]; exact hf) e
theorem atOf_dom {w:List Mod} {rv:List Rev} {x:Lock} {p:ByteArray} {v:Ver} (hrv:∀ r ∈ rv,revOK r = true) (hx:GoodL x) (h:atOf w rv x p = some v):v ∈ verD:=by
 obtain ⟨_,_,h3⟩:=parse_good hx.ver
 unfold atOf at h
 rw [Option.bind_eq_some_iff] at h
 obtain ⟨u,h1,h2⟩:=h
 have hu:u = v:=by
  unfold chkOf at h2
  split at h2
  ·injection h2
  ·cases h2
 subst hu
 split at h1
 ·exact h3 _ h1
 ·exact revOf_dom hrv h1
end Go.Vx.Z
/-! Which module a lock is of. -/
namespace Go.Vx.Z
open Go Go.Vx
set_option linter.unusedVariables false
set_option maxRecDepth 100000
theorem verD_ok:verD.all okV = true:=by kernel_rfl
theorem okD {v:Ver} (h:v ∈ verD):okV v = true:=List.all_eq_true.1 verD_ok v h
theorem maj_is {p:ByteArray} (hp:p ∈ pathsL):(∃ m,F59 (p,()) = some (rootOf p,m,())) ∧ ∃ m,F19 (p,()) = some (rootOf p,m,()):=by
 have h:=List.all_eq_true.1 maj_all p hp
 rw [PF59_ok,PF19_ok]
 unfold majOK at h
 unfold rootOf
 cases h1:PF59 (p,()) with
 | none => rw [h1] at h; cases h
 | some q =>
  obtain ⟨r,m,⟨⟩⟩:=q
  rw [h1] at h
  cases h2:PF19 (p,()) with
  | none => rw [h2] at h; cases h
  | some q =>
   obtain ⟨r',m',⟨⟩⟩:=q
   rw [h2] at h
   have hb:bs r = bs r':=by simpa using h
   have hb:=bs_inj hb
   subst hb
   exact ⟨⟨m,rfl⟩,⟨m',rfl⟩⟩
def GoodRt (s:ByteArray):Prop:=s = lit [122,122] ∨ ∃ r ∈ rootsK,∃ f ∈ sufK,s = r ++ f
theorem with_is {s p:ByteArray} (hs:GoodRt s) (hp:p ∈ pathsL):F60 (s,rootOf p,()) = some (withB s (rootOf p),()) ∧ F115 (s,rootOf p,()) = some (withB s (rootOf p),()):=by
 have h:withOK s (rootOf p) = true:=by
  rcases hs with rfl | ⟨r,hr,f,hf,rfl⟩
  ·exact List.all_eq_true.1 with_zz p hp
  ·exact List.all_eq_true.1 (List.all_eq_true.1 (List.all_eq_true.1 with_all r hr) f hf) p hp
 rw [PF60_ok,PF115_ok]
 unfold withOK at h
 unfold withB
 cases h1:PF60 (s,rootOf p,()) with
 | none => rw [h1] at h; cases h
 | some q =>
  obtain ⟨b,⟨⟩⟩:=q
  rw [h1] at h
  cases h2:PF115 (s,rootOf p,()) with
  | none => rw [h2] at h; cases h
  | some q =>
   obtain ⟨b',⟨⟩⟩:=q
   rw [h2] at h
   have hb:b = b':=by simpa using h
   subst hb
   exact ⟨rfl,rfl⟩
theorem F58_is (w:List Mod) (rv:List Rev) (h:w.length ≤ 1000):F58 (w,rv,()) = some (w.map Prod.fst,()):=by
 rw [F58_eq]
 have:=loop_fold (B:=B58_0) w (fun i (b:List ByteArray) => (w,Int.ofNat w.length,(i:Int),b,())) (fun b m => b ++ [m.1]) (fun b => (b,())) [] (fun i b => b.length ≤ i) (Nat.le_refl _) (by
  intro i hi b hb
  constructor
  ·have e:decide (b.length + [w[i].1].length ≤ 8796093022208) = true:=by rw [decide_eq_true_eq]; simp; omega
   rw [B58_0_eq,lt_in hi,ge_zero,at_in hi,wrap_next hi (by omega)]
   simp only [cond_true,Option.bind_some,e]
  ·simp; omega) (fun b _ => by rw [B58_0_eq,lt_out]; rfl)
 have hf:∀ (l:List Mod) b,l.foldl (fun b m => b ++ [m.1]) b = b ++ l.map Prod.fst:=by
  intro l
  induction l with
  | nil => intro b; simp
  | cons x l ih => intro b; rw [List.foldl_cons,ih]; simp
 rw [hf,List.nil_append] at this
 have this':loop B58_0 (w,Int.ofNat w.length,Int.ofNat 0,[],()) = some (w.map Prod.fst,()):=this
 rw [this',Option.bind_some,F87_eq,Nat.ble_eq_true_of_le (by simp; omega)]
 rfl
theorem F114_is (w:List Mod) (rv:List Rev) (h:w.length ≤ 1000):F114 (w,rv,()) = some (w.map Prod.fst,()):=by
 rw [F114_eq]
 have:=loop_fold (B:=B114_0) w (fun i (b:List ByteArray) => ((i:Int),w,rv,b,())) (fun b m => b ++ [m.1]) (fun b => (b,())) [] (fun i b => b.length ≤ i) (Nat.le_refl _) (by
  intro i hi b hb
  constructor
  ·have e:decide (b.length + [w[i].1].length ≤ 8796093022208) = true:=by rw [decide_eq_true_eq]; simp; omega
   rw [B114_0_eq,lt_in hi,ge_zero,at_in hi,wrap_next hi (by omega)]
   simp only [cond_true,Option.bind_some,e]
  ·simp; omega) (fun b _ => by rw [B114_0_eq,lt_out]; rfl)
 have hf:∀ (l:List Mod) b,l.foldl (fun b m => b ++ [m.1]) b = b ++ l.map Prod.fst:=by
  intro l
  induction l with
  | nil => intro b; simp
  | cons x l ih => intro b; rw [List.foldl_cons,ih]; simp
 rw [hf,List.nil_append] at this
 have this':loop B114_0 (Int.ofNat 0,w,rv,[],()) = some (w.map Prod.fst,()):=this
 rw [this',Option.bind_some]
abbrev Fnd:=Bool × ByteArray × Int × Ver
noncomputable def updF (p:ByteArray) (s:Fnd) (v:Ver):Fnd:=
 if ((rootOf p).size:Int) < s.2.2.1 then (true,s.2) else if ((rootOf p).size:Int) = s.2.2.1 ∧ cmpV v s.2.2.2 ≤ 0 then (true,s.2) else (true,p,((rootOf p).size:Int),v)
noncomputable def stepF (w:List Mod) (rv:List Rev) (x:Lock) (s:Fnd) (p:ByteArray):Fnd:=
 bif withB x.1 (rootOf p) then (match atOf w rv x p with | some v => updF p s v | none => (true,s.2)) else s
def fnd0:Fnd:=(false,lit [],Int.negSucc 0,((0:Int),(0:Int),(0:Int),lit [],()))
noncomputable def whereOf (w:List Mod) (rv:List Rev) (x:Lock):Fnd:=(w.map Prod.fst).foldl (stepF w rv x) fnd0
def Fnd.e (s:Fnd):Int:=if s.1 = false then 8 else if s.2.2.1 < 0 then 9 else 0
structure FndOK (s:Fnd):Prop where
 ge:-1 ≤ s.2.2.1
 any:s.1 = false → s.2.2.1 = -1
 ok:0 ≤ s.2.2.1 → s.2.2.2 ∈ verD ∧ s.2.1 ∈ pathsL
 none:s.2.2.1 < 0 → s.2 = fnd0.2
theorem stepF_ok {w:List Mod} {rv:List Rev} {x:Lock} {s:Fnd} {p:ByteArray} (hrv:∀ r ∈ rv,revOK r = true) (hx:GoodL x) (hp:p ∈ pathsL) (h:FndOK s):FndOK (stepF w rv x s p):=by
 unfold stepF
 cases withB x.1 (rootOf p) with
 | false => exact h
 | true =>
  rw [cond_true]
  cases ha:atOf w rv x p with
  | none => exact ⟨h.ge,(fun e => by cases e),h.ok,h.none⟩
  | some v =>
   simp only
   unfold updF
   split
   ·exact ⟨h.ge,(fun e => by cases e),h.ok,h.none⟩
   ·split
    ·exact ⟨h.ge,(fun e => by cases e),h.ok,h.none⟩
    ·exact ⟨by simp only; omega,(fun e => by cases e),fun _ => ⟨atOf_dom hrv hx ha,hp⟩,fun e => by simp only at e; omega⟩
theorem fnd0_ok:FndOK fnd0:=⟨by decide,fun _ => rfl,fun h => by exact absurd h (by decide),fun _ => rfl⟩
theorem fold_ok {w:List Mod} {rv:List Rev} {x:Lock} (hrv:∀ r ∈ rv,revOK r = true) (hx:GoodL x):∀ (l:List ByteArray) (s:Fnd),(∀ p ∈ l,p ∈ pathsL) → FndOK s → FndOK (l.foldl (stepF w rv x) s)
 | [],s,_,h => h
 | p :: l,s,hl,h => fold_ok hrv hx l _ (fun q hq => hl q (List.mem_cons_of_mem _ hq)) (stepF_ok hrv hx (hl p (List.mem_cons_self)) h)
theorem zeroV_ok:okV (0,0,0,lit [],()) = true:=rfl
theorem FndOK.okv {s:Fnd} (h:FndOK s):okV s.2.2.2 = true:=by
 by_cases hl:0 ≤ s.2.2.1
 ·exact okD (h.ok hl).1
 ·have:=h.none (by omega)
  rw [this]; exact zeroV_ok
theorem F67_is {w:List Mod} {rv:List Rev} {x:Lock} (hw:okW w) (hwl:w.length ≤ 1000) (hwp:∀ p ∈ w.map Prod.fst,p ∈ pathsL) (hl:rv.length ≤ 1000000) (hrv:∀ r ∈ rv,revOK r = true) (hx:GoodL x) (hr:GoodRt x.1) :
  F67 (w,rv,x.1,x.2.1,x.2.2.1,x.2.2.2.1,x.2.2.2.2.1,()) = some ((whereOf w rv x).2.1,(whereOf w rv x).2.2.2.1,(whereOf w rv x).2.2.2.2.1,(whereOf w rv x).2.2.2.2.2.1,(whereOf w rv x).2.2.2.2.2.2.1,(whereOf w rv x).e,()):=by
 have hok:FndOK (whereOf w rv x):=fold_ok hrv hx _ _ hwp fnd0_ok
 rw [F67_eq,F114_is w rv hwl,Option.bind_some]
 simp only
 have:=loop_fold (B:=B67_0) (w.map Prod.fst) (fun i (s:Fnd) => (w.map Prod.fst,s.1,s.2.1,s.2.2.1,(i:Int),w,rv,x.1,x.2.1,x.2.2.1,x.2.2.2.1,x.2.2.2.2.1,Int.ofNat 0,Int.ofNat 0,Int.ofNat 0,lit [],s.2.2.2.1,s.2.2.2.2.1,s.2.2.2.2.2.1,s.2.2.2.2.2.2.1,())) (stepF w rv x)
  (fun s => (s.1,s.2.1,s.2.2.1,Int.ofNat 0,Int.ofNat 0,Int.ofNat 0,lit [],s.2.2.2.1,s.2.2.2.2.1,s.2.2.2.2.2.1,s.2.2.2.2.2.2.1,())) fnd0 (fun i s => FndOK s) fnd0_ok (by
   intro i hi s hs
   have hp:(w.map Prod.fst)[i] ∈ pathsL:=hwp _ (List.getElem_mem hi)
   refine ⟨?_,stepF_ok hrv hx hp hs⟩
   generalize hpe:(w.map Prod.fst)[i] = p at hp ⊢
   rw [B67_0_eq,lt_in hi,ge_zero,at_in hi,wrap_next hi (by simp; omega),hpe]
   obtain ⟨_,m,hm⟩:=maj_is hp
   simp only [cond_true,Option.bind_some]
   rw [hm,Option.bind_some]
   simp only
   rw [(with_is hr hp).2,Option.bind_some]
   unfold stepF
   cases hwi:withB x.1 (rootOf p) with
   | false => rfl
   | true =>
    simp only [Bool.not_true,cond_false,cond_true]
    obtain ⟨a,b,c,q,h1,h2⟩:=(at_is hw hl hrv hx hp).2
    rw [h1,Option.bind_some]
    simp only
    cases ha:atOf w rv x p with
    | none => rfl
    | some v =>
     have hv:=h2 v ha
     simp only [Option.isSome_some,cond_true]
     have hcmp:F117 (a,b,c,q,s.2.2.2.1,s.2.2.2.2.1,s.2.2.2.2.2.1,s.2.2.2.2.2.2.1,()) = some (cmpV v s.2.2.2,()):=by
      have:=F117_is v s.2.2.2 (okD (atOf_dom hrv hx ha)) hs.okv
      rw [← hv] at this ⊢
      exact this
     unfold updF
     by_cases c1:((rootOf p).size:Int) > s.2.2.1
     ·rw [show decide (Int.ofNat (rootOf p).size > s.2.2.1) = true from decide_eq_true c1,if_neg (by omega),if_neg (by omega),← hv]
      rfl
     ·rw [show decide (Int.ofNat (rootOf p).size > s.2.2.1) = false from decide_eq_false c1,cond_false]
      by_cases c2:((rootOf p).size:Int) = s.2.2.1
      ·rw [show (Int.ofNat (rootOf p).size == s.2.2.1) = true by simpa using c2,cond_true,hcmp,Option.bind_some]
       simp only
       rw [if_neg (by omega)]
       by_cases c3:cmpV v s.2.2.2 ≤ 0
       ·rw [show decide (cmpV v s.2.2.2 > Int.ofNat 0) = false by simp; omega,if_pos ⟨c2,c3⟩]
        rfl
       ·rw [show decide (cmpV v s.2.2.2 > Int.ofNat 0) = true by simp; omega,if_neg (fun h => c3 h.2),← hv]
        rfl
      ·rw [show (Int.ofNat (rootOf p).size == s.2.2.1) = false by simpa using c2,if_pos (by omega)]
       rfl) (fun s _ => by rw [B67_0_eq,lt_out]; rfl)
 have this':loop B67_0 (w.map Prod.fst,false,lit [],Int.negSucc 0,Int.ofNat 0,w,rv,x.1,x.2.1,x.2.2.1,x.2.2.2.1,x.2.2.2.2.1,Int.ofNat 0,Int.ofNat 0,Int.ofNat 0,lit [],Int.ofNat 0,Int.ofNat 0,Int.ofNat 0,lit [],()) = _:=this
 rw [this',Option.bind_some]
 simp only
 rw [show List.foldl (stepF w rv x) fnd0 (List.map Prod.fst w) = whereOf w rv x from rfl]
 generalize whereOf w rv x = s at hok ⊢
 unfold Fnd.e
 cases h1:s.1 with
 | false =>
  have:=hok.any h1
  have h3:=hok.none (by omega)
  rw [h3]
  rfl
 | true =>
  simp only [Bool.not_true,cond_false]
  by_cases h2:s.2.2.1 < 0
  ·have h3:=hok.none h2
   rw [h3]
   rfl
  ·rw [show decide (s.2.2.1 < Int.ofNat 0) = false by simp; omega,if_neg h2]
   rfl
theorem F31_is {w:List Mod} {rv:List Rev} {x:Lock} (hw:okW w) (hwl:w.length ≤ 1000) (hwp:∀ p ∈ w.map Prod.fst,p ∈ pathsL) (hl:rv.length ≤ 1000000) (hrv:∀ r ∈ rv,revOK r = true) (hx:GoodL x) (hr:GoodRt x.1) :
  F31 (w,rv,x.1,x.2.1,x.2.2.1,x.2.2.2.1,x.2.2.2.2.1,()) = some ((whereOf w rv x).2.1,(whereOf w rv x).2.2.2.1,(whereOf w rv x).2.2.2.2.1,(whereOf w rv x).2.2.2.2.2.1,(whereOf w rv x).2.2.2.2.2.2.1,
   (if bl x.2.2.2.2.1 ≠ [] ∧ (whereOf w rv x).e = 0 then (x.2.2.2.2.1,(whereOf w rv x).2.2.2.1,(whereOf w rv x).2.2.2.2.1,(whereOf w rv x).2.2.2.2.2.1,(whereOf w rv x).2.2.2.2.2.2.1,(whereOf w rv x).e,()) else (lit [],0,0,0,lit [],(whereOf w rv x).e,()))):=by
 have hok:FndOK (whereOf w rv x):=fold_ok hrv hx _ _ hwp fnd0_ok
 rw [F31_eq,F58_is w rv hwl,Option.bind_some]
 simp only
 have:=loop_fold (B:=B31_0) (w.map Prod.fst) (fun i (s:Fnd) => (s.e,s.2.2.1,w.map Prod.fst,Int.ofNat (w.map Prod.fst).length,(i:Int),w,rv,x.1,x.2.1,x.2.2.1,x.2.2.2.1,x.2.2.2.2.1,lit [],Int.ofNat 0,Int.ofNat 0,Int.ofNat 0,lit [],lit [],Int.ofNat 0,Int.ofNat 0,Int.ofNat 0,lit [],s.2.1,s.2.2.2.1,s.2.2.2.2.1,s.2.2.2.2.2.1,s.2.2.2.2.2.2.1,lit [],Int.ofNat 0,Int.ofNat 0,Int.ofNat 0,lit [],())) (stepF w rv x)
  (fun s => (s.e,x.1,x.2.1,x.2.2.1,x.2.2.2.1,x.2.2.2.2.1,lit [],Int.ofNat 0,Int.ofNat 0,Int.ofNat 0,lit [],lit [],Int.ofNat 0,Int.ofNat 0,Int.ofNat 0,lit [],s.2.1,s.2.2.2.1,s.2.2.2.2.1,s.2.2.2.2.2.1,s.2.2.2.2.2.2.1,lit [],Int.ofNat 0,Int.ofNat 0,Int.ofNat 0,lit [],())) fnd0 (fun i s => FndOK s) fnd0_ok (by
   intro i hi s hs
   have hp:(w.map Prod.fst)[i] ∈ pathsL:=hwp _ (List.getElem_mem hi)
   refine ⟨?_,stepF_ok hrv hx hp hs⟩
   generalize hpe:(w.map Prod.fst)[i] = p at hp ⊢
   rw [B31_0_eq,lt_in hi,ge_zero,at_in hi,wrap_next hi (by simp; omega),hpe]
   obtain ⟨⟨m,hm⟩,_⟩:=maj_is hp
   simp only [cond_true,Option.bind_some]
   rw [hm,Option.bind_some]
   simp only
   rw [(with_is hr hp).1,Option.bind_some]
   unfold stepF
   cases hwi:withB x.1 (rootOf p) with
   | false => rfl
   | true =>
    simp only [Bool.not_true,cond_false,cond_true]
    obtain ⟨a,b,c,q,h1,h2⟩:=(at_is hw hl hrv hx hp).1
    rw [h1,Option.bind_some,Option.bind_some]
    simp only
    -- what it is called once one is of the lock
    have he:(bif s.e == Int.ofNat 8 then (9:Int) else s.e) = Fnd.e (true,s.2):=by
     unfold Fnd.e
     cases h0:s.1 with
     | false =>
      have:=hs.any h0
      simp only [if_true,Bool.true_eq_false,if_false]
      rw [if_pos (by omega)]
      rfl
     | true =>
      simp only [Bool.true_eq_false,if_false]
      split <;> rfl
    have dup:∀ {α:Type} (f:Int → α),(bif s.e == Int.ofNat 8 then f 9 else f s.e) = f (Fnd.e (true,s.2)):=fun f => by
     rw [← he]
     cases s.e == Int.ofNat 8 <;> rfl
    cases ha:atOf w rv x p with
    | none =>
     simp only [Option.isSome_none,Bool.not_false,cond_true]
     exact dup fun e => some (Sum.inl (e,s.2.2.1,w.map Prod.fst,Int.ofNat (w.map Prod.fst).length,((i + 1:Nat):Int),w,rv,x.1,x.2.1,x.2.2.1,x.2.2.2.1,x.2.2.2.2.1,lit [],Int.ofNat 0,Int.ofNat 0,Int.ofNat 0,lit [],lit [],Int.ofNat 0,Int.ofNat 0,Int.ofNat 0,lit [],s.2.1,s.2.2.2.1,s.2.2.2.2.1,s.2.2.2.2.2.1,s.2.2.2.2.2.2.1,lit [],Int.ofNat 0,Int.ofNat 0,Int.ofNat 0,lit [],()))
    | some v =>
     have hv:=h2 v ha
     simp only [Option.isSome_some,Bool.not_true,cond_false]
     have hcmp:F45 (a,b,c,q,s.2.2.2.1,s.2.2.2.2.1,s.2.2.2.2.2.1,s.2.2.2.2.2.2.1,()) = some (cmpV v s.2.2.2,()):=by
      have:=F45_is v s.2.2.2 (okD (atOf_dom hrv hx ha)) hs.okv
      rw [← hv] at this ⊢
      exact this
     have hnew:Fnd.e (true,p,((rootOf p).size:Int),v) = 0:=by unfold Fnd.e; simp
     unfold updF
     by_cases c1:((rootOf p).size:Int) < s.2.2.1
     ·rw [show decide (Int.ofNat (rootOf p).size < s.2.2.1) = true from decide_eq_true c1,if_pos c1]
      simp only [cond_true]
      exact dup fun e => some (Sum.inl (e,s.2.2.1,w.map Prod.fst,Int.ofNat (w.map Prod.fst).length,((i + 1:Nat):Int),w,rv,x.1,x.2.1,x.2.2.1,x.2.2.2.1,x.2.2.2.2.1,lit [],Int.ofNat 0,Int.ofNat 0,Int.ofNat 0,lit [],lit [],Int.ofNat 0,Int.ofNat 0,Int.ofNat 0,lit [],s.2.1,s.2.2.2.1,s.2.2.2.2.1,s.2.2.2.2.2.1,s.2.2.2.2.2.2.1,lit [],Int.ofNat 0,Int.ofNat 0,Int.ofNat 0,lit [],()))
     ·rw [show decide (Int.ofNat (rootOf p).size < s.2.2.1) = false from decide_eq_false c1,if_neg c1]
      simp only [cond_false]
      by_cases c2:((rootOf p).size:Int) = s.2.2.1
      ·rw [show (Int.ofNat (rootOf p).size == s.2.2.1) = true by simpa using c2]
       simp only [cond_true,hcmp,Option.bind_some]
       by_cases c3:cmpV v s.2.2.2 ≤ 0
       ·rw [show decide (cmpV v s.2.2.2 ≤ Int.ofNat 0) = true by simp; omega,if_pos ⟨c2,c3⟩]
        simp only [cond_true]
        exact dup fun e => some (Sum.inl (e,s.2.2.1,w.map Prod.fst,Int.ofNat (w.map Prod.fst).length,((i + 1:Nat):Int),w,rv,x.1,x.2.1,x.2.2.1,x.2.2.2.1,x.2.2.2.2.1,lit [],Int.ofNat 0,Int.ofNat 0,Int.ofNat 0,lit [],lit [],Int.ofNat 0,Int.ofNat 0,Int.ofNat 0,lit [],s.2.1,s.2.2.2.1,s.2.2.2.2.1,s.2.2.2.2.2.1,s.2.2.2.2.2.2.1,lit [],Int.ofNat 0,Int.ofNat 0,Int.ofNat 0,lit [],()))
       ·rw [show decide (cmpV v s.2.2.2 ≤ Int.ofNat 0) = false by simp; omega,if_neg (fun h => c3 h.2),hnew,← hv]
        simp only [cond_false]
        cases s.e == Int.ofNat 8 <;> rfl
      ·rw [show (Int.ofNat (rootOf p).size == s.2.2.1) = false by simpa using c2,if_neg (fun h => c2 h.1),hnew,← hv]
       simp only [cond_false]
       cases s.e == Int.ofNat 8 <;> rfl) (fun s _ => by rw [B31_0_eq,lt_out]; rfl)
 have this':loop B31_0 (Int.ofNat 8,Int.negSucc 0,w.map Prod.fst,Int.ofNat (w.map Prod.fst).length,Int.ofNat 0,w,rv,x.1,x.2.1,x.2.2.1,x.2.2.2.1,x.2.2.2.2.1,lit [],Int.ofNat 0,Int.ofNat 0,Int.ofNat 0,lit [],lit [],Int.ofNat 0,Int.ofNat 0,Int.ofNat 0,lit [],lit [],Int.ofNat 0,Int.ofNat 0,Int.ofNat 0,lit [],lit [],Int.ofNat 0,Int.ofNat 0,Int.ofNat 0,lit [],()) = _:=this
 rw [this',Option.bind_some]
 simp only
 rw [show List.foldl (stepF w rv x) fnd0 (List.map Prod.fst w) = whereOf w rv x from rfl]
 generalize whereOf w rv x = s at hok ⊢
 cases hb:(bl x.2.2.2.2.1 == []) with
 | true =>
  rw [bl_nil] at hb
  rw [if_neg (fun h => h.1 (of_decide_eq_true hb))]
  rfl
 | false =>
  rw [bl_nil] at hb
  simp only [Bool.not_false,cond_true]
  by_cases h0:s.e = 0
  ·rw [if_pos ⟨of_decide_eq_false hb,h0⟩,h0]
   rfl
  ·rw [if_neg (fun h => h0 h.2),show (s.e == Int.ofNat 0) = false by simpa using h0]
   rfl
end Go.Vx.Z
/-! What one lock wants, what troubles it. -/
namespace Go.Vx.Z
open Go Go.Vx
set_option linter.unusedVariables false
set_option maxRecDepth 100000
abbrev Want:=ByteArray × Int × Int × Int × ByteArray × ByteArray × Int × Int × Int × ByteArray × Unit
abbrev Trb:=Int × ByteArray × ByteArray × Int × Int × Int × ByteArray × Int × Int × Int × ByteArray × Unit
def sameP (p:ByteArray) (y:Want):Bool:=bs y.1 == bs p
theorem F32v1_is (p:ByteArray) (l:List Want) (h:l.length ≤ 1000):F32v1 (p,l,()) = some ((l.find? (sameP p)).elim (lit [],0,0,0,lit [],lit [],0,0,0,lit [],false,l,()) fun y => (y.1,y.2.1,y.2.2.1,y.2.2.2.1,y.2.2.2.2.1,y.2.2.2.2.2.1,y.2.2.2.2.2.2.1,y.2.2.2.2.2.2.2.1,y.2.2.2.2.2.2.2.2.1,y.2.2.2.2.2.2.2.2.2.1,true,l,())):=by
 rw [F32v1_eq]
 have:=loop_find (B:=B32v1_0) l (fun i => (p,Int.ofNat l.length,(i:Int),l,lit [],Int.ofNat 0,Int.ofNat 0,Int.ofNat 0,lit [],lit [],Int.ofNat 0,Int.ofNat 0,Int.ofNat 0,lit [],())) (sameP p)
  (fun y => .inl (true,l,y.1,y.2.1,y.2.2.1,y.2.2.2.1,y.2.2.2.2.1,y.2.2.2.2.2.1,y.2.2.2.2.2.2.1,y.2.2.2.2.2.2.2.1,y.2.2.2.2.2.2.2.2.1,y.2.2.2.2.2.2.2.2.2.1,())) (.inr (l,lit [],Int.ofNat 0,Int.ofNat 0,Int.ofNat 0,lit [],lit [],Int.ofNat 0,Int.ofNat 0,Int.ofNat 0,lit [],())) (by
   intro i hi
   rw [B32v1_0_eq,lt_both hi,at_in hi,wrap_next hi (by omega),lt_in hi]
   simp only [cond_true,Option.bind_some,beq_bs]
   unfold sameP
   cases bs l[i].1 == bs p <;> rfl) (by rw [B32v1_0_eq,lt_out]; rfl)
 have this':loop B32v1_0 (p,Int.ofNat l.length,Int.ofNat 0,l,lit [],Int.ofNat 0,Int.ofNat 0,Int.ofNat 0,lit [],lit [],Int.ofNat 0,Int.ofNat 0,Int.ofNat 0,lit [],()) = _:=this
 rw [this',Option.bind_some]
 cases l.find? (sameP p) <;> rfl
def GoodW (s:ByteArray):Prop:=s = lit [] ∨ s ∈ withinD
noncomputable def outB (s:ByteArray) (v:Ver):Bool:=if bl s = [] then false else (outsR s v).getD false
theorem out_is {s:ByteArray} {v:Ver} (hs:s ∈ withinD) (hv:v ∈ verD):∃ b,outsP s v = some b ∧ outsR s v = some b:=by
 have h:=List.all_eq_true.1 (List.all_eq_true.1 out_all s hs) v hv
 unfold outOK at h
 cases h1:outsP s v with
 | none => rw [h1] at h; cases h
 | some b =>
  rw [h1] at h
  cases h2:outsR s v with
  | none => rw [h2] at h; cases h
  | some b' =>
   rw [h2] at h
   have:b = b':=by simpa using h
   subst this
   exact ⟨b,rfl,rfl⟩
theorem F33_is (a b c s d:ByteArray) (v:Ver) (hs:GoodW s) (hv:v ∈ verD):F33 (a,b,c,s,d,v.1,v.2.1,v.2.2.1,v.2.2.2.1,()) = some (outB s v,()):=by
 rw [F33_eq]
 unfold outB
 cases hb:(bl s == []) with
 | true => rw [bl_nil] at hb; rw [if_pos (of_decide_eq_true hb)]; rfl
 | false =>
  rw [bl_nil] at hb
  rw [if_neg (of_decide_eq_false hb),cond_false]
  have hs':s ∈ withinD:=by
   rcases hs with rfl | h
   ·exact absurd rfl (of_decide_eq_false hb)
   ·exact h
  obtain ⟨b,h1,h2⟩:=out_is hs' hv
  rw [h2]
  unfold outsP at h1
  rw [PF62_ok,PF63_ok]
  cases h3:PF62 (s,()) with
  | none => rw [h3] at h1; cases h1
  | some r =>
   rw [h3] at h1
   simp only [Option.bind_some] at h1 ⊢
   cases h4:(!r.2.2.1 == Int.ofNat 0) with
   | true => rw [h4] at h1; simp only [cond_true,Option.some.injEq] at h1 ⊢; rw [← h1]; rfl
   | false =>
    rw [h4] at h1
    simp only [cond_false] at h1 ⊢
    cases h5:PF63 (r.1,v.1,v.2.1,v.2.2.1,v.2.2.2.1,()) with
    | none => rw [h5] at h1; cases h1
    | some q =>
     rw [h5] at h1
     simp only [Option.map_some,Option.some.injEq] at h1
     rw [← h1]
     rfl
def eqW (a b:Want):Bool:=bs a.1 == bs b.1 && ((a.2.1 == b.2.1 && (a.2.2.1 == b.2.2.1 && (a.2.2.2.1 == b.2.2.2.1 && bs a.2.2.2.2.1 == bs b.2.2.2.2.1))) && (bs a.2.2.2.2.2.1 == bs b.2.2.2.2.2.1 && (a.2.2.2.2.2.2.1 == b.2.2.2.2.2.2.1 && (a.2.2.2.2.2.2.2.1 == b.2.2.2.2.2.2.2.1 && (a.2.2.2.2.2.2.2.2.1 == b.2.2.2.2.2.2.2.2.1 && bs a.2.2.2.2.2.2.2.2.2.1 == bs b.2.2.2.2.2.2.2.2.2.1)))))
theorem eqW_iff {a b:Want}:eqW a b = true ↔ a = b:=by
 obtain ⟨a1,a2,a3,a4,a5,a6,a7,a8,a9,a10,u⟩:=a
 obtain ⟨b1,b2,b3,b4,b5,b6,b7,b8,b9,b10,u'⟩:=b
 simp only [eqW,Bool.and_eq_true,beq_iff_eq,Prod.mk.injEq,and_true]
 constructor
 ·rintro ⟨h1,⟨h2,h3,h4,h5⟩,h6,h7,h8,h9,h10⟩
  exact ⟨bs_inj h1,h2,h3,h4,bs_inj h5,bs_inj h6,h7,h8,h9,bs_inj h10⟩
 ·rintro ⟨rfl,rfl,rfl,rfl,rfl,rfl,rfl,rfl,rfl,rfl⟩
  exact ⟨rfl,⟨rfl,rfl,rfl,rfl⟩,rfl,rfl,rfl,rfl,rfl⟩
noncomputable def wantOf (x:Lock) (s:Fnd):Want:=
 (s.2.1,s.2.2.2.1,s.2.2.2.2.1,s.2.2.2.2.2.1,s.2.2.2.2.2.2.1,if bl x.2.2.2.2.1 ≠ [] ∧ s.e = 0 then (x.2.2.2.2.1,s.2.2.2.1,s.2.2.2.2.1,s.2.2.2.2.2.1,s.2.2.2.2.2.2.1,()) else (lit [],0,0,0,lit [],()))
def trb (e:Int) (root p:ByteArray) (v u:Ver):Trb:=(e,root,p,v.1,v.2.1,v.2.2.1,v.2.2.2.1,u.1,u.2.1,u.2.2.1,u.2.2.2.1,())
def ver0:Ver:=(0,0,0,lit [],())
def Want.v (y:Want):Ver:=(y.2.1,y.2.2.1,y.2.2.2.1,y.2.2.2.2.1,())
noncomputable def judge (md:ByteArray) (x:Lock) (s:Fnd) (l:List Want):Option Trb:=
 if s.e ≠ 0 then some (trb s.e x.1 (lit []) ver0 ver0)
 else if outB x.2.2.2.1 s.2.2.2 = true then some (trb 10 x.1 s.2.1 s.2.2.2 ver0)
 else if bs s.2.1 = bs md then some (trb 11 x.1 s.2.1 s.2.2.2 ver0)
 else (l.find? (sameP s.2.1)).bind fun b => if eqW b (wantOf x s) = true then none else some (trb 11 x.1 s.2.1 s.2.2.2 b.v)
end Go.Vx.Z
/-! What locks want: the program. -/
namespace Go.Vx.Z
open Go Go.Vx
set_option linter.unusedVariables false
set_option maxRecDepth 100000
structure GoodWd (w:List Mod) (rv:List Rev):Prop where
 ok:okW w
 len:w.length ≤ 1000
 path:∀ p ∈ w.map Prod.fst,p ∈ pathsL
 rlen:rv.length ≤ 1000000
 rev:∀ r ∈ rv,revOK r = true
structure GoodK (x:Lock):Prop where
 l:GoodL x
 root:GoodRt x.1
 within:GoodW x.2.2.2.1
theorem where_ok {w:List Mod} {rv:List Rev} {x:Lock} (hw:GoodWd w rv) (hx:GoodK x):FndOK (whereOf w rv x):=fold_ok hw.rev hx.l _ _ hw.path fnd0_ok
noncomputable def stepP (w:List Mod) (rv:List Rev) (md:ByteArray) (b:List Want × List Trb) (x:Lock):List Want × List Trb:=
 match judge md x (whereOf w rv x) b.1 with
 | some t => (b.1,b.2 ++ [t])
 | none => (if (b.1.find? (sameP (whereOf w rv x).2.1)).isSome = true then b.1 else b.1 ++ [wantOf x (whereOf w rv x)],b.2)
theorem FndOK.of_e {s:Fnd} (h:FndOK s) (he:s.e = 0):s.2.2.2 ∈ verD ∧ s.2.1 ∈ pathsL:=by
 unfold Fnd.e at he
 split at he
 ·cases he
 ·split at he
  ·cases he
  ·exact h.ok (by omega)
theorem cdec {α:Type} {Q:Prop} {hd:Decidable Q} {a b:α} (h:Q):(bif @decide Q hd then a else b) = a:=by rw [decide_eq_true h]; rfl
theorem B12_is {w:List Mod} {rv:List Rev} {md:ByteArray} {l:List Lock} (hw:GoodWd w rv) (hl:∀ x ∈ l,GoodK x) (hlen:l.length ≤ 1000) {i:Nat} (hi:i < l.length) (b:List Want × List Trb) (h1:b.1.length ≤ i) (h2:b.2.length ≤ i) :
  B12_0 (md,l,Int.ofNat l.length,(i:Int),w,rv,b.1,b.2,()) = some (.inl (md,l,Int.ofNat l.length,((i + 1:Nat):Int),w,rv,(stepP w rv md b l[i]).1,(stepP w rv md b l[i]).2,())):=by
 obtain ⟨out,ts⟩:=b
 simp only at h1 h2 ⊢
 have hx:=hl _ (List.getElem_mem hi)
 have hok:=where_ok hw hx
 rw [B12_0_eq,lt_in hi,ge_zero,at_in hi,wrap_next hi (by omega)]
 generalize l[i] = x at hx hok ⊢
 simp only [cond_true,Option.bind_some]
 rw [F31_is hw.ok hw.len hw.path hw.rlen hw.rev hx.l hx.root,Option.bind_some]
 have eT:∀ t:Trb,decide (ts.length + [t].length ≤ 1172812402961) = true:=fun t => by rw [decide_eq_true_eq]; simp; omega
 have eW:∀ t:Want,decide (out.length + [t].length ≤ 1256584717458) = true:=fun t => by rw [decide_eq_true_eq]; simp; omega
 unfold stepP
 generalize hs:whereOf w rv x = s at hok ⊢
 have hout:s.e = 0 → F33 (x.1,x.2.1,x.2.2.1,x.2.2.2.1,x.2.2.2.2.1,s.2.2.2.1,s.2.2.2.2.1,s.2.2.2.2.2.1,s.2.2.2.2.2.2.1,()) = some (outB x.2.2.2.1 s.2.2.2,()):=fun he => F33_is _ _ _ _ _ s.2.2.2 hx.within (hok.of_e he).1
 simp only
 rw [F32v1_is s.2.1 out (by omega),Option.bind_some]
 by_cases he:s.e = 0
 ·have hj:judge md x s out = if outB x.2.2.2.1 s.2.2.2 = true then some (trb 10 x.1 s.2.1 s.2.2.2 ver0) else if bs s.2.1 = bs md then some (trb 11 x.1 s.2.1 s.2.2.2 ver0) else (out.find? (sameP s.2.1)).bind fun b => if eqW b (wantOf x s) = true then none else some (trb 11 x.1 s.2.1 s.2.2.2 b.v):=by
   unfold judge
   rw [if_neg (by simpa using he)]
  have hE:∀ (T:ByteArray × Int × Int × Int × ByteArray × Int × Unit),T.2.2.2.2.2.1 = s.e → (!T.2.2.2.2.2.1 == Int.ofNat 0) = false:=fun T hT => by rw [hT,he]; rfl
  have hTe:(if bl x.2.2.2.2.1 ≠ [] ∧ s.e = 0 then (x.2.2.2.2.1,s.2.2.2.1,s.2.2.2.2.1,s.2.2.2.2.2.1,s.2.2.2.2.2.2.1,s.e,()) else (lit [],(0:Int),(0:Int),(0:Int),lit [],s.e,())).2.2.2.2.2.1 = s.e:=by split <;> rfl
  have hW:∀ y:Unit,wantOf x s = (s.2.1,s.2.2.2.1,s.2.2.2.2.1,s.2.2.2.2.2.1,s.2.2.2.2.2.2.1,(if bl x.2.2.2.2.1 ≠ [] ∧ s.e = 0 then (x.2.2.2.2.1,s.2.2.2.1,s.2.2.2.2.1,s.2.2.2.2.2.1,s.2.2.2.2.2.2.1,s.e,()) else (lit [],(0:Int),(0:Int),(0:Int),lit [],s.e,())).1,
    (if bl x.2.2.2.2.1 ≠ [] ∧ s.e = 0 then (x.2.2.2.2.1,s.2.2.2.1,s.2.2.2.2.1,s.2.2.2.2.2.1,s.2.2.2.2.2.2.1,s.e,()) else (lit [],(0:Int),(0:Int),(0:Int),lit [],s.e,())).2.1,
    (if bl x.2.2.2.2.1 ≠ [] ∧ s.e = 0 then (x.2.2.2.2.1,s.2.2.2.1,s.2.2.2.2.1,s.2.2.2.2.2.1,s.2.2.2.2.2.2.1,s.e,()) else (lit [],(0:Int),(0:Int),(0:Int),lit [],s.e,())).2.2.1,
    (if bl x.2.2.2.2.1 ≠ [] ∧ s.e = 0 then (x.2.2.2.2.1,s.2.2.2.1,s.2.2.2.2.1,s.2.2.2.2.2.1,s.2.2.2.2.2.2.1,s.e,()) else (lit [],(0:Int),(0:Int),(0:Int),lit [],s.e,())).2.2.2.1,
    (if bl x.2.2.2.2.1 ≠ [] ∧ s.e = 0 then (x.2.2.2.2.1,s.2.2.2.1,s.2.2.2.2.1,s.2.2.2.2.2.1,s.2.2.2.2.2.2.1,s.e,()) else (lit [],(0:Int),(0:Int),(0:Int),lit [],s.e,())).2.2.2.2.1,()):=fun _ => by
   unfold wantOf
   split <;> rfl
  have hW:=hW ()
  generalize (if bl x.2.2.2.2.1 ≠ [] ∧ s.e = 0 then (x.2.2.2.2.1,s.2.2.2.1,s.2.2.2.2.1,s.2.2.2.2.2.1,s.2.2.2.2.2.2.1,s.e,()) else (lit [],(0:Int),(0:Int),(0:Int),lit [],s.e,())) = T at hTe hW ⊢
  rw [hE T hTe,hout he]
  simp only [cond_false,Option.bind_some]
  rw [hj]
  cases ho:outB x.2.2.2.1 s.2.2.2 with
  | true =>
   simp only [cond_true,if_true]
   rw [eT]
   cases out.find? (sameP s.2.1) <;> rfl
  | false =>
   simp only [cond_false,Bool.false_eq_true,if_false,beq_bs]
   cases hm:(bs s.2.1 == bs md) with
   | true =>
    rw [if_pos (by simpa using hm)]
    simp only [cond_true]
    rw [eT]
    cases out.find? (sameP s.2.1) <;> rfl
   | false =>
    rw [if_neg (by simpa using hm)]
    simp only [cond_false]
    cases hf:out.find? (sameP s.2.1) with
    | none =>
     simp only [Option.elim_none,cond_false,Bool.not_false,cond_true,Option.bind_none,Option.isSome_none,Bool.false_eq_true,if_false]
     rw [hW]
     simp only [List.length_cons,List.length_nil]
     exact cdec (by omega)
    | some y =>
     simp only [Option.elim_some,cond_true,Bool.not_true,cond_false,Option.bind_some,Option.isSome_some,if_true]
     have hq:eqW y (wantOf x s) = (bs y.1 == bs s.2.1 && ((y.2.1 == s.2.2.2.1 && (y.2.2.1 == s.2.2.2.2.1 && (y.2.2.2.1 == s.2.2.2.2.2.1 && bs y.2.2.2.2.1 == bs s.2.2.2.2.2.2.1))) && (bs y.2.2.2.2.2.1 == bs T.1 && (y.2.2.2.2.2.2.1 == T.2.1 && (y.2.2.2.2.2.2.2.1 == T.2.2.1 && (y.2.2.2.2.2.2.2.2.1 == T.2.2.2.1 && bs y.2.2.2.2.2.2.2.2.2.1 == bs T.2.2.2.2.1)))))):=by rw [hW]; rfl
     rw [hq]
     cases (bs y.1 == bs s.2.1 && ((y.2.1 == s.2.2.2.1 && (y.2.2.1 == s.2.2.2.2.1 && (y.2.2.2.1 == s.2.2.2.2.2.1 && bs y.2.2.2.2.1 == bs s.2.2.2.2.2.2.1))) && (bs y.2.2.2.2.2.1 == bs T.1 && (y.2.2.2.2.2.2.1 == T.2.1 && (y.2.2.2.2.2.2.2.1 == T.2.2.1 && (y.2.2.2.2.2.2.2.2.1 == T.2.2.2.1 && bs y.2.2.2.2.2.2.2.2.2.1 == bs T.2.2.2.2.1)))))) with
     | true => rfl
     | false =>
      simp only [Bool.not_false,cond_true,Bool.false_eq_true,if_false]
      rw [eT]
      rfl
 ·have hj:judge md x s out = some (trb s.e x.1 (lit []) ver0 ver0):=by
   unfold judge
   rw [if_pos he]
  rw [if_neg (fun h => he h.2),hj]
  have hE:(!s.e == Int.ofNat 0) = true:=by simpa using he
  simp only [hE,cond_true]
  rw [eT]
  cases out.find? (sameP s.2.1) <;> rfl
end Go.Vx.Z
/-! What locks want: the program, whole. -/
namespace Go.Vx.Z
open Go Go.Vx
set_option linter.unusedVariables false
set_option maxRecDepth 100000
theorem stepP_len {w:List Mod} {rv:List Rev} {md:ByteArray} {b:List Want × List Trb} {x:Lock}:(stepP w rv md b x).1.length ≤ b.1.length + 1 ∧ (stepP w rv md b x).2.length ≤ b.2.length + 1:=by
 unfold stepP
 split
 ·simp
 ·simp only
  split <;> simp
noncomputable def runP (w:List Mod) (rv:List Rev) (md:ByteArray) (l:List Lock):List Want × List Trb:=l.foldl (stepP w rv md) ([],[])
theorem fold_len {w:List Mod} {rv:List Rev} {md:ByteArray}:∀ (l:List Lock) (b:List Want × List Trb),(l.foldl (stepP w rv md) b).1.length ≤ b.1.length + l.length ∧ (l.foldl (stepP w rv md) b).2.length ≤ b.2.length + l.length
 | [],b => by simp
 | x :: l,b => by
  have h1:=fold_len (w:=w) (rv:=rv) (md:=md) l (stepP w rv md b x)
  have h2:=stepP_len (w:=w) (rv:=rv) (md:=md) (b:=b) (x:=x)
  simp only [List.foldl_cons,List.length_cons]
  omega
theorem sort_len (l:List Want):(sortBy cmpWant l).length = l.length:=by
 cases l with
 | nil => rfl
 | cons x l =>
  unfold sortBy
  rw [List.length_map]
  have:=(pdq_range (swo_at lin_cmpT.swo fun i => bs ((x :: l).getD i x).1) (x :: l).length).length_eq
  rw [List.length_range] at this
  exact this
theorem F12_is {w:List Mod} {rv:List Rev} {md:ByteArray} {l:List Lock} (hw:GoodWd w rv) (hl:∀ x ∈ l,GoodK x) (hlen:l.length ≤ 1000) :
  F12 (w,rv,md,l,()) = some (sortBy cmpWant (runP w rv md l).1,(runP w rv md l).2,()):=by
 rw [F12_eq]
 have:=loop_fold (B:=B12_0) l (fun i (b:List Want × List Trb) => (md,l,Int.ofNat l.length,(i:Int),w,rv,b.1,b.2,())) (stepP w rv md) (fun b => (b.1,b.2,())) ([],[]) (fun i b => b.1.length ≤ i ∧ b.2.length ≤ i) ⟨Nat.le_refl _,Nat.le_refl _⟩ (by
  intro i hi b hb
  refine ⟨B12_is hw hl hlen hi b hb.1 hb.2,?_⟩
  have h2:=stepP_len (w:=w) (rv:=rv) (md:=md) (b:=b) (x:=l[i])
  omega) (fun b _ => by rw [B12_0_eq,lt_out]; rfl)
 have this':loop B12_0 (md,l,Int.ofNat l.length,Int.ofNat 0,w,rv,[],[],()) = some ((runP w rv md l).1,(runP w rv md l).2,()):=this
 rw [this',Option.bind_some]
 have hb:=fold_len (w:=w) (rv:=rv) (md:=md) l ([],[])
 have h1:(runP w rv md l).1.length ≤ 1000:=by unfold runP; simp only [List.length_nil] at hb; omega
 have h2:(runP w rv md l).2.length ≤ 1000:=by unfold runP; simp only [List.length_nil] at hb; omega
 generalize runP w rv md l = b at h1 h2
 have h34:F34 (b.1,()) = some (sortBy cmpWant b.1,()):=by
  unfold F34 FSort
  have e:(b.1.all okWant && decide (b.1.length < 4611686018427387904)) = true:=by
   rw [Bool.and_eq_true]
   exact ⟨List.all_eq_true.2 fun _ _ => rfl,decide_eq_true (by omega)⟩
  simp only
  rw [e]
  rfl
 simp only
 rw [h34,Option.bind_some]
 simp only
 rw [F37_eq,Nat.ble_eq_true_of_le (by rw [sort_len]; omega)]
 simp only [cond_true,Option.bind_some]
 rw [F38_eq,Nat.ble_eq_true_of_le (by omega)]
 rfl
end Go.Vx.Z
/-! What one lock wants, what troubles it: the document. -/
namespace Go.Vx.Z
open Go Go.Vx
set_option linter.unusedVariables false
set_option maxRecDepth 100000
def otherW (p:ByteArray) (y z:Want):Bool:=sameP p z && !eqW z y
theorem loop39 (l:List Want) (p a1 a2 a3 a4 a5:ByteArray) (v:Ver) (y:Want) (h:l.length ≤ 1000) :
  loop B39_0 (l,p,Int.ofNat 0,a1,a2,a3,a4,a5,lit [],Int.ofNat 0,Int.ofNat 0,Int.ofNat 0,lit [],lit [],Int.ofNat 0,Int.ofNat 0,Int.ofNat 0,lit [],Int.ofNat 0,lit [],lit [],Int.ofNat 0,Int.ofNat 0,Int.ofNat 0,lit [],Int.ofNat 0,Int.ofNat 0,Int.ofNat 0,lit [],v.1,v.2.1,v.2.2.1,v.2.2.2.1,y.1,y.2.1,y.2.2.1,y.2.2.2.1,y.2.2.2.2.1,y.2.2.2.2.2.1,y.2.2.2.2.2.2.1,y.2.2.2.2.2.2.2.1,y.2.2.2.2.2.2.2.2.1,y.2.2.2.2.2.2.2.2.2.1,()) =
   some ((l.find? (otherW p y)).elim (.inr (lit [],Int.ofNat 0,Int.ofNat 0,Int.ofNat 0,lit [],lit [],Int.ofNat 0,Int.ofNat 0,Int.ofNat 0,lit [],Int.ofNat 0,lit [],lit [],Int.ofNat 0,Int.ofNat 0,Int.ofNat 0,lit [],Int.ofNat 0,Int.ofNat 0,Int.ofNat 0,lit [],y.1,y.2.1,y.2.2.1,y.2.2.2.1,y.2.2.2.2.1,y.2.2.2.2.2.1,y.2.2.2.2.2.2.1,y.2.2.2.2.2.2.2.1,y.2.2.2.2.2.2.2.2.1,y.2.2.2.2.2.2.2.2.2.1,()))
    fun z => .inl (lit [],Int.ofNat 0,Int.ofNat 0,Int.ofNat 0,lit [],lit [],Int.ofNat 0,Int.ofNat 0,Int.ofNat 0,lit [],Int.ofNat 11,a1,p,v.1,v.2.1,v.2.2.1,v.2.2.2.1,z.2.1,z.2.2.1,z.2.2.2.1,z.2.2.2.2.1,())):=by
 have:=loop_find (B:=B39_0) l (fun i => (l,p,(i:Int),a1,a2,a3,a4,a5,lit [],Int.ofNat 0,Int.ofNat 0,Int.ofNat 0,lit [],lit [],Int.ofNat 0,Int.ofNat 0,Int.ofNat 0,lit [],Int.ofNat 0,lit [],lit [],Int.ofNat 0,Int.ofNat 0,Int.ofNat 0,lit [],Int.ofNat 0,Int.ofNat 0,Int.ofNat 0,lit [],v.1,v.2.1,v.2.2.1,v.2.2.2.1,y.1,y.2.1,y.2.2.1,y.2.2.2.1,y.2.2.2.2.1,y.2.2.2.2.2.1,y.2.2.2.2.2.2.1,y.2.2.2.2.2.2.2.1,y.2.2.2.2.2.2.2.2.1,y.2.2.2.2.2.2.2.2.2.1,())) (otherW p y)
  (fun z => .inl (lit [],Int.ofNat 0,Int.ofNat 0,Int.ofNat 0,lit [],lit [],Int.ofNat 0,Int.ofNat 0,Int.ofNat 0,lit [],Int.ofNat 11,a1,p,v.1,v.2.1,v.2.2.1,v.2.2.2.1,z.2.1,z.2.2.1,z.2.2.2.1,z.2.2.2.2.1,()))
  (.inr (lit [],Int.ofNat 0,Int.ofNat 0,Int.ofNat 0,lit [],lit [],Int.ofNat 0,Int.ofNat 0,Int.ofNat 0,lit [],Int.ofNat 0,lit [],lit [],Int.ofNat 0,Int.ofNat 0,Int.ofNat 0,lit [],Int.ofNat 0,Int.ofNat 0,Int.ofNat 0,lit [],y.1,y.2.1,y.2.2.1,y.2.2.2.1,y.2.2.2.2.1,y.2.2.2.2.2.1,y.2.2.2.2.2.2.1,y.2.2.2.2.2.2.2.1,y.2.2.2.2.2.2.2.2.1,y.2.2.2.2.2.2.2.2.2.1,())) (by
   intro i hi
   rw [B39_0_eq,lt_in hi,ge_zero,at_in hi,wrap_next hi (by omega)]
   simp only [cond_true,Option.bind_some,beq_bs,F68_eq]
   have hq:eqW l[i] y = (bs l[i].1 == bs y.1 && ((l[i].2.1 == y.2.1 && (l[i].2.2.1 == y.2.2.1 && (l[i].2.2.2.1 == y.2.2.2.1 && bs l[i].2.2.2.2.1 == bs y.2.2.2.2.1))) && (bs l[i].2.2.2.2.2.1 == bs y.2.2.2.2.2.1 && (l[i].2.2.2.2.2.2.1 == y.2.2.2.2.2.2.1 && (l[i].2.2.2.2.2.2.2.1 == y.2.2.2.2.2.2.2.1 && (l[i].2.2.2.2.2.2.2.2.1 == y.2.2.2.2.2.2.2.2.1 && bs l[i].2.2.2.2.2.2.2.2.2.1 == bs y.2.2.2.2.2.2.2.2.2.1)))))):=rfl
   rw [← hq]
   unfold otherW sameP
   cases bs l[i].1 == bs p with
   | false => rfl
   | true => cases eqW l[i] y <;> rfl) (by rw [B39_0_eq,lt_out]; rfl)
 exact this
noncomputable def judgeR (md:ByteArray) (x:Lock) (s:Fnd) (l:List Want):Option Trb:=
 if s.e ≠ 0 then some (trb s.e x.1 (lit []) ver0 ver0)
 else if outB x.2.2.2.1 s.2.2.2 = true then some (trb 10 x.1 s.2.1 s.2.2.2 ver0)
 else if bs s.2.1 = bs md then some (trb 11 x.1 s.2.1 s.2.2.2 ver0)
 else (l.find? (otherW s.2.1 (wantOf x s))).map fun b => trb 11 x.1 s.2.1 s.2.2.2 b.v
def trbs (t:Trb):Int × ByteArray × ByteArray × Int × Int × Int × ByteArray × Int × Int × Int × ByteArray × Unit:=(t.1,t.2.1,t.2.2.1,t.2.2.2.1,t.2.2.2.2.1,t.2.2.2.2.2.1,t.2.2.2.2.2.2.1,t.2.2.2.2.2.2.2.1,t.2.2.2.2.2.2.2.2.1,t.2.2.2.2.2.2.2.2.2.1,t.2.2.2.2.2.2.2.2.2.2.1,())
theorem F39_is {w:List Mod} {rv:List Rev} {md:ByteArray} {x:Lock} (hw:GoodWd w rv) (hx:GoodK x) (l:List Want) (h:l.length ≤ 1000) :
  F39 (w,rv,md,x.1,x.2.1,x.2.2.1,x.2.2.2.1,x.2.2.2.2.1,l,()) = some (match judgeR md x (whereOf w rv x) l with
   | some t => (lit [],0,0,0,lit [],lit [],0,0,0,lit [],trbs t)
   | none => ((wantOf x (whereOf w rv x)).1,(wantOf x (whereOf w rv x)).2.1,(wantOf x (whereOf w rv x)).2.2.1,(wantOf x (whereOf w rv x)).2.2.2.1,(wantOf x (whereOf w rv x)).2.2.2.2.1,(wantOf x (whereOf w rv x)).2.2.2.2.2.1,(wantOf x (whereOf w rv x)).2.2.2.2.2.2.1,(wantOf x (whereOf w rv x)).2.2.2.2.2.2.2.1,(wantOf x (whereOf w rv x)).2.2.2.2.2.2.2.2.1,(wantOf x (whereOf w rv x)).2.2.2.2.2.2.2.2.2.1,trbs (trb 0 (lit []) (lit []) ver0 ver0))):=by
 have hok:=where_ok hw hx
 rw [F39_eq,F67_is hw.ok hw.len hw.path hw.rlen hw.rev hx.l hx.root,Option.bind_some]
 generalize whereOf w rv x = s at hok ⊢
 simp only [F68_eq,Option.bind_some]
 by_cases he:s.e = 0
 ·have hv:=(hok.of_e he).1
  have hE:(!s.e == Int.ofNat 0) = false:=by rw [he]; rfl
  simp only [hE,cond_false]
  have hj:judgeR md x s l = if outB x.2.2.2.1 s.2.2.2 = true then some (trb 10 x.1 s.2.1 s.2.2.2 ver0) else if bs s.2.1 = bs md then some (trb 11 x.1 s.2.1 s.2.2.2 ver0) else (l.find? (otherW s.2.1 (wantOf x s))).map fun b => trb 11 x.1 s.2.1 s.2.2.2 b.v:=by
   unfold judgeR
   rw [if_neg (by simpa using he)]
  -- behind what is outside
  have rest:(bif bl s.2.1 == bl md then some (lit [],Int.ofNat 0,Int.ofNat 0,Int.ofNat 0,lit [],lit [],Int.ofNat 0,Int.ofNat 0,Int.ofNat 0,lit [],Int.ofNat 11,x.1,s.2.1,s.2.2.2.1,s.2.2.2.2.1,s.2.2.2.2.2.1,s.2.2.2.2.2.2.1,Int.ofNat 0,Int.ofNat 0,Int.ofNat 0,lit [],()) else
    (Option.bind (loop B39_0 (l,s.2.1,Int.ofNat 0,x.1,x.2.1,x.2.2.1,x.2.2.2.1,x.2.2.2.2.1,lit [],Int.ofNat 0,Int.ofNat 0,Int.ofNat 0,lit [],lit [],Int.ofNat 0,Int.ofNat 0,Int.ofNat 0,lit [],Int.ofNat 0,lit [],lit [],Int.ofNat 0,Int.ofNat 0,Int.ofNat 0,lit [],Int.ofNat 0,Int.ofNat 0,Int.ofNat 0,lit [],s.2.2.2.1,s.2.2.2.2.1,s.2.2.2.2.2.1,s.2.2.2.2.2.2.1,(wantOf x s).1,(wantOf x s).2.1,(wantOf x s).2.2.1,(wantOf x s).2.2.2.1,(wantOf x s).2.2.2.2.1,(wantOf x s).2.2.2.2.2.1,(wantOf x s).2.2.2.2.2.2.1,(wantOf x s).2.2.2.2.2.2.2.1,(wantOf x s).2.2.2.2.2.2.2.2.1,(wantOf x s).2.2.2.2.2.2.2.2.2.1,())) fun r => Sum.elim (fun p => some (p.1,p.2.1,p.2.2.1,p.2.2.2.1,p.2.2.2.2.1,p.2.2.2.2.2.1,p.2.2.2.2.2.2.1,p.2.2.2.2.2.2.2.1,p.2.2.2.2.2.2.2.2.1,p.2.2.2.2.2.2.2.2.2.1,p.2.2.2.2.2.2.2.2.2.2.1,p.2.2.2.2.2.2.2.2.2.2.2.1,p.2.2.2.2.2.2.2.2.2.2.2.2.1,p.2.2.2.2.2.2.2.2.2.2.2.2.2.1,p.2.2.2.2.2.2.2.2.2.2.2.2.2.2.1,p.2.2.2.2.2.2.2.2.2.2.2.2.2.2.2.1,p.2.2.2.2.2.2.2.2.2.2.2.2.2.2.2.2.1,p.2.2.2.2.2.2.2.2.2.2.2.2.2.2.2.2.2.1,p.2.2.2.2.2.2.2.2.2.2.2.2.2.2.2.2.2.2.1,p.2.2.2.2.2.2.2.2.2.2.2.2.2.2.2.2.2.2.2.1,p.2.2.2.2.2.2.2.2.2.2.2.2.2.2.2.2.2.2.2.2.1,())) (fun p => some (p.2.2.2.2.2.2.2.2.2.2.2.2.2.2.2.2.2.2.2.2.2.1,p.2.2.2.2.2.2.2.2.2.2.2.2.2.2.2.2.2.2.2.2.2.2.1,p.2.2.2.2.2.2.2.2.2.2.2.2.2.2.2.2.2.2.2.2.2.2.2.1,p.2.2.2.2.2.2.2.2.2.2.2.2.2.2.2.2.2.2.2.2.2.2.2.2.1,p.2.2.2.2.2.2.2.2.2.2.2.2.2.2.2.2.2.2.2.2.2.2.2.2.2.1,p.2.2.2.2.2.2.2.2.2.2.2.2.2.2.2.2.2.2.2.2.2.2.2.2.2.2.1,p.2.2.2.2.2.2.2.2.2.2.2.2.2.2.2.2.2.2.2.2.2.2.2.2.2.2.2.1,p.2.2.2.2.2.2.2.2.2.2.2.2.2.2.2.2.2.2.2.2.2.2.2.2.2.2.2.2.1,p.2.2.2.2.2.2.2.2.2.2.2.2.2.2.2.2.2.2.2.2.2.2.2.2.2.2.2.2.2.1,p.2.2.2.2.2.2.2.2.2.2.2.2.2.2.2.2.2.2.2.2.2.2.2.2.2.2.2.2.2.2.1,Int.ofNat 0,lit [],lit [],Int.ofNat 0,Int.ofNat 0,Int.ofNat 0,lit [],Int.ofNat 0,Int.ofNat 0,Int.ofNat 0,lit [],())) r)) =
    some (match (if bs s.2.1 = bs md then some (trb 11 x.1 s.2.1 s.2.2.2 ver0) else (l.find? (otherW s.2.1 (wantOf x s))).map fun b => trb 11 x.1 s.2.1 s.2.2.2 b.v) with
     | some t => (lit [],0,0,0,lit [],lit [],0,0,0,lit [],trbs t)
     | none => ((wantOf x s).1,(wantOf x s).2.1,(wantOf x s).2.2.1,(wantOf x s).2.2.2.1,(wantOf x s).2.2.2.2.1,(wantOf x s).2.2.2.2.2.1,(wantOf x s).2.2.2.2.2.2.1,(wantOf x s).2.2.2.2.2.2.2.1,(wantOf x s).2.2.2.2.2.2.2.2.1,(wantOf x s).2.2.2.2.2.2.2.2.2.1,trbs (trb 0 (lit []) (lit []) ver0 ver0))):=by
   rw [beq_bs]
   cases hm:(bs s.2.1 == bs md) with
   | true => rw [if_pos (by simpa using hm)]; rfl
   | false =>
    rw [if_neg (by simpa using hm),cond_false,loop39 l s.2.1 _ _ _ _ _ s.2.2.2 (wantOf x s) h,Option.bind_some]
    cases l.find? (otherW s.2.1 (wantOf x s)) <;> rfl
  rw [hj]
  have fin:∀ REST,REST = some (match (if bs s.2.1 = bs md then some (trb 11 x.1 s.2.1 s.2.2.2 ver0) else (l.find? (otherW s.2.1 (wantOf x s))).map fun b => trb 11 x.1 s.2.1 s.2.2.2 b.v) with
     | some t => (lit [],0,0,0,lit [],lit [],0,0,0,lit [],trbs t)
     | none => ((wantOf x s).1,(wantOf x s).2.1,(wantOf x s).2.2.1,(wantOf x s).2.2.2.1,(wantOf x s).2.2.2.2.1,(wantOf x s).2.2.2.2.2.1,(wantOf x s).2.2.2.2.2.2.1,(wantOf x s).2.2.2.2.2.2.2.1,(wantOf x s).2.2.2.2.2.2.2.2.1,(wantOf x s).2.2.2.2.2.2.2.2.2.1,trbs (trb 0 (lit []) (lit []) ver0 ver0))) →
    (bif !bl x.2.2.2.1 == [] then Option.bind (F69 (x.2.2.2.1,())) fun r => bif !r.2.2.1 == Int.ofNat 0 then some (lit [],Int.ofNat 0,Int.ofNat 0,Int.ofNat 0,lit [],lit [],Int.ofNat 0,Int.ofNat 0,Int.ofNat 0,lit [],Int.ofNat 10,x.1,s.2.1,s.2.2.2.1,s.2.2.2.2.1,s.2.2.2.2.2.1,s.2.2.2.2.2.2.1,Int.ofNat 0,Int.ofNat 0,Int.ofNat 0,lit [],()) else
      Option.bind (F70 (r.1,s.2.2.2.1,s.2.2.2.2.1,s.2.2.2.2.2.1,s.2.2.2.2.2.2.1,())) fun r => bif !r.1 then some (lit [],Int.ofNat 0,Int.ofNat 0,Int.ofNat 0,lit [],lit [],Int.ofNat 0,Int.ofNat 0,Int.ofNat 0,lit [],Int.ofNat 10,x.1,s.2.1,s.2.2.2.1,s.2.2.2.2.1,s.2.2.2.2.2.1,s.2.2.2.2.2.2.1,Int.ofNat 0,Int.ofNat 0,Int.ofNat 0,lit [],()) else REST
     else REST) = some (match (if outB x.2.2.2.1 s.2.2.2 = true then some (trb 10 x.1 s.2.1 s.2.2.2 ver0) else if bs s.2.1 = bs md then some (trb 11 x.1 s.2.1 s.2.2.2 ver0) else (l.find? (otherW s.2.1 (wantOf x s))).map fun b => trb 11 x.1 s.2.1 s.2.2.2 b.v) with
     | some t => (lit [],0,0,0,lit [],lit [],0,0,0,lit [],trbs t)
     | none => ((wantOf x s).1,(wantOf x s).2.1,(wantOf x s).2.2.1,(wantOf x s).2.2.2.1,(wantOf x s).2.2.2.2.1,(wantOf x s).2.2.2.2.2.1,(wantOf x s).2.2.2.2.2.2.1,(wantOf x s).2.2.2.2.2.2.2.1,(wantOf x s).2.2.2.2.2.2.2.2.1,(wantOf x s).2.2.2.2.2.2.2.2.2.1,trbs (trb 0 (lit []) (lit []) ver0 ver0))):=by
   intro REST hREST
   cases ho:(bl x.2.2.2.1 == []) with
   | true =>
    rw [bl_nil] at ho
    have:outB x.2.2.2.1 s.2.2.2 = false:=by unfold outB; rw [if_pos (of_decide_eq_true ho)]
    rw [this]
    simp only [Bool.not_true,cond_false,Bool.false_eq_true,if_false]
    exact hREST
   | false =>
    rw [bl_nil] at ho
    have hs':x.2.2.2.1 ∈ withinD:=by
     rcases hx.within with e | e
     ·rw [e] at ho; exact absurd rfl (of_decide_eq_false ho)
     ·exact e
    obtain ⟨b,_,h2⟩:=out_is hs' hv
    have hob:outB x.2.2.2.1 s.2.2.2 = b:=by unfold outB; rw [if_neg (of_decide_eq_false ho),h2]; rfl
    rw [hob,PF69_ok,PF70_ok]
    simp only [Bool.not_false,cond_true]
    unfold outsR at h2
    cases h3:PF69 (x.2.2.2.1,()) with
    | none => rw [h3] at h2; cases h2
    | some r =>
     rw [h3] at h2
     simp only [Option.bind_some] at h2 ⊢
     cases h4:(!r.2.2.1 == Int.ofNat 0) with
     | true =>
      rw [h4] at h2
      simp only [cond_true,Option.some.injEq] at h2 ⊢
      rw [← h2]
      rfl
     | false =>
      rw [h4] at h2
      simp only [cond_false] at h2 ⊢
      cases h5:PF70 (r.1,s.2.2.2.1,s.2.2.2.2.1,s.2.2.2.2.2.1,s.2.2.2.2.2.2.1,()) with
      | none => rw [h5] at h2; cases h2
      | some q =>
       rw [h5] at h2
       simp only [Option.map_some,Option.some.injEq,Option.bind_some] at h2 ⊢
       rw [← h2]
       cases q.1 with
       | true =>
        simp only [Bool.not_true,cond_false,Bool.false_eq_true,if_false]
        exact hREST
       | false => rfl
  cases hb:(bl x.2.2.2.2.1 == []) with
  | true =>
   rw [bl_nil] at hb
   have hW:wantOf x s = (s.2.1,s.2.2.2.1,s.2.2.2.2.1,s.2.2.2.2.2.1,s.2.2.2.2.2.2.1,lit [],0,0,0,lit [],()):=by unfold wantOf; rw [if_neg (fun h => h.1 (of_decide_eq_true hb))]
   refine fin _ ?_
   rw [← rest,hW]
   rfl
  | false =>
   rw [bl_nil] at hb
   have hW:wantOf x s = (s.2.1,s.2.2.2.1,s.2.2.2.2.1,s.2.2.2.2.2.1,s.2.2.2.2.2.2.1,x.2.2.2.2.1,s.2.2.2.1,s.2.2.2.2.1,s.2.2.2.2.2.1,s.2.2.2.2.2.2.1,()):=by unfold wantOf; rw [if_pos ⟨of_decide_eq_false hb,he⟩]
   refine fin _ ?_
   rw [← rest,hW]
   rfl
 ·have hj:judgeR md x s l = some (trb s.e x.1 (lit []) ver0 ver0):=by
   unfold judgeR
   rw [if_pos he]
  have hE:(!s.e == Int.ofNat 0) = true:=by simpa using he
  simp only [hE,cond_true,hj]
  rfl
end Go.Vx.Z
/-! Wants, in order: the document's row, the program's. -/
namespace Go.Vx.Z
open Go Go.Vx
set_option linter.unusedVariables false
set_option maxRecDepth 100000
theorem wrap_prev {i n:Nat} (h0:1 ≤ i) (h:i ≤ n) (hn:n ≤ 9223372036854775807):IntKind.wrap IntKind.i64 ((i:Int) - Int.ofNat 1) = ((i - 1:Nat):Int):=by
 rw [wrap64 (by simp; omega) (by simp; omega)]
 simp; omega
def cW (a b:Want):Int:=cmpT (bs a.1) (bs b.1)
def Apart (l:List Want):Prop:=l.Pairwise fun a b => bs a.1 ≠ bs b.1
theorem find_uniq {p:ByteArray} {y:Want}:∀ {l:List Want},Apart l → y ∈ l → bs y.1 = bs p → l.find? (sameP p) = some y
 | [],_,h,_ => by simp at h
 | x :: l,hD,h,hp => by
  unfold Apart at hD
  rw [List.pairwise_cons] at hD
  rw [List.find?_cons]
  rcases List.mem_cons.1 h with rfl | h
  ·have:sameP p y = true:=by unfold sameP; simpa using hp
   rw [this]
  ·have:sameP p x = false:=by
    unfold sameP
    rw [← Bool.not_eq_true]
    intro he
    exact hD.1 y h ((by simpa using he:bs x.1 = bs p).trans hp.symm)
   rw [this]
   exact find_uniq hD.2 h hp
theorem apart_perm {l r:List Want} (h:l.Perm r) (hD:Apart l):Apart r:=(h.pairwise_iff fun {a b} h e => h e.symm).1 hD
theorem find_perm {l r:List Want} (h:l.Perm r) (hD:Apart l) (p:ByteArray):l.find? (sameP p) = r.find? (sameP p):=by
 cases hl:l.find? (sameP p) with
 | none =>
  rw [List.find?_eq_none] at hl
  rw [Eq.comm,List.find?_eq_none]
  exact fun x hx => hl x (h.mem_iff.2 hx)
 | some y =>
  have h1:=List.mem_of_find?_eq_some hl
  have h2:=List.find?_some hl
  exact (find_uniq (apart_perm h hD) (h.mem_iff.1 h1) (by unfold sameP at h2; simpa using h2)).symm
theorem find_other {l:List Want} (hD:Apart l) (p:ByteArray) (y:Want):l.find? (otherW p y) = (l.find? (sameP p)).bind fun z => if eqW z y = true then none else some z:=by
 cases hl:l.find? (sameP p) with
 | none =>
  rw [List.find?_eq_none] at hl
  rw [Option.bind_none,List.find?_eq_none]
  intro x hx
  unfold otherW
  simp [hl x hx]
 | some z =>
  have h1:=List.mem_of_find?_eq_some hl
  have h2:=List.find?_some hl
  rw [Option.bind_some]
  split
  ·rename_i he
   rw [List.find?_eq_none]
   intro x hx hx2
   unfold otherW at hx2
   simp only [Bool.and_eq_true,Bool.not_eq_true'] at hx2
   have:l.find? (sameP p) = some x:=find_uniq hD hx (by have:=hx2.1; unfold sameP at this; simpa using this)
   rw [hl] at this
   injection this with this
   rw [← this,he] at hx2
   cases hx2.2
  ·rename_i he
   cases hq:l.find? (otherW p y) with
   | none =>
    rw [List.find?_eq_none] at hq
    have:=hq z h1
    unfold otherW at this
    simp only [Bool.and_eq_true,Bool.not_eq_true',not_and,Bool.not_eq_false] at this
    exact absurd (this h2) he
   | some x =>
    have hx:=List.mem_of_find?_eq_some hq
    have hx2:=List.find?_some hq
    unfold otherW at hx2
    simp only [Bool.and_eq_true] at hx2
    have:l.find? (sameP p) = some x:=find_uniq hD hx (by have:=hx2.1; unfold sameP at this; simpa using this)
    rw [hl] at this
    exact this.symm
theorem judge_same {md:ByteArray} {x:Lock} {s:Fnd} {l r:List Want} (h:l.Perm r) (hD:Apart l):judgeR md x s r = judge md x s l:=by
 unfold judgeR judge
 rw [find_other (apart_perm h hD),← find_perm h hD]
 split
 ·rfl
 split
 ·rfl
 split
 ·rfl
 cases l.find? (sameP s.2.1) with
 | none => rfl
 | some z =>
  simp only [Option.bind_some]
  split <;> rfl
theorem B14_0_is (md:ByteArray) (l:List Lock) (i:Int) (w:List Mod) (rv:List Rev) (out:List Want) (ts:List Trb) (y:Want) (hn:out.length ≤ 1000) :
  ∃ j:Nat,loop B14_0 (md,l,i,Int.ofNat out.length,w,rv,out,ts,y.1,y.2.1,y.2.2.1,y.2.2.2.1,y.2.2.2.2.1,y.2.2.2.2.2.1,y.2.2.2.2.2.2.1,y.2.2.2.2.2.2.2.1,y.2.2.2.2.2.2.2.2.1,y.2.2.2.2.2.2.2.2.2.1,()) = some (md,l,i,(j:Int),w,rv,out,ts,y.1,y.2.1,y.2.2.1,y.2.2.2.1,y.2.2.2.2.1,y.2.2.2.2.2.1,y.2.2.2.2.2.2.1,y.2.2.2.2.2.2.2.1,y.2.2.2.2.2.2.2.2.1,y.2.2.2.2.2.2.2.2.2.1,()) ∧
   j ≤ out.length ∧ (∀ k (hk:k < out.length),j ≤ k → cW y out[k] < 0) ∧ ∀ k (hk:k < out.length),k + 1 = j → ¬ cW y out[k] < 0:=by
 obtain ⟨e,h1,j,h2,h3,h4,h5⟩:=loop_inv (B:=B14_0) (fun p => ∃ j:Nat,j ≤ out.length ∧ (∀ k (hk:k < out.length),j ≤ k → cW y out[k] < 0) ∧ p = (md,l,i,(j:Int),w,rv,out,ts,y.1,y.2.1,y.2.2.1,y.2.2.2.1,y.2.2.2.2.1,y.2.2.2.2.2.1,y.2.2.2.2.2.2.1,y.2.2.2.2.2.2.2.1,y.2.2.2.2.2.2.2.2.1,y.2.2.2.2.2.2.2.2.2.1,())) (fun p => p.2.2.2.1.toNat)
  (fun e => ∃ j:Nat,j ≤ out.length ∧ (∀ k (hk:k < out.length),j ≤ k → cW y out[k] < 0) ∧ (∀ k (hk:k < out.length),k + 1 = j → ¬ cW y out[k] < 0) ∧ e = (md,l,i,(j:Int),w,rv,out,ts,y.1,y.2.1,y.2.2.1,y.2.2.2.1,y.2.2.2.2.1,y.2.2.2.2.2.1,y.2.2.2.2.2.2.1,y.2.2.2.2.2.2.2.1,y.2.2.2.2.2.2.2.2.1,y.2.2.2.2.2.2.2.2.2.1,())) (by
   rintro p ⟨j,hj,hab,rfl⟩
   rw [B14_0_eq]
   by_cases h0:0 < j
   ·have hj1:j - 1 < out.length:=by omega
    rw [show decide ((j:Int) > Int.ofNat 0) = true by simp; omega,wrap_prev h0 (show j ≤ 1000 by omega) (by omega),ge_zero,at_in hj1]
    simp only [cond_true,Option.bind_some]
    have hbl:Op.bytesLess (bl y.1) (bl out[j - 1].1) = decide (cW y out[j - 1] < 0):=by
     rw [show Op.bytesLess (bl y.1) (bl out[j - 1].1) = decide (cmpT (bs y.1) (bs out[j - 1].1) = -1) from bytesLess_eq _ _]
     have:=lin_cmpT.rng (bs y.1) (bs out[j - 1].1)
     unfold cW
     rw [Bool.eq_iff_iff,decide_eq_true_eq,decide_eq_true_eq]
     omega
    rw [hbl]
    cases hd:decide (cW y out[j - 1] < 0) with
    | true =>
     refine .inl ⟨_,rfl,⟨j - 1,by omega,fun k hk hjk => ?_,rfl⟩,by simp; omega⟩
     by_cases he:k = j - 1
     ·subst he; exact of_decide_eq_true hd
     ·exact hab k hk (by omega)
    | false =>
     refine .inr ⟨_,rfl,j,hj,hab,fun k hk hkj => ?_,rfl⟩
     have:k = j - 1:=by omega
     subst this
     exact of_decide_eq_false hd
   ·have:j = 0:=by omega
    subst this
    exact .inr ⟨_,rfl,0,hj,hab,fun k hk h => by omega,rfl⟩) (md,l,i,Int.ofNat out.length,w,rv,out,ts,y.1,y.2.1,y.2.2.1,y.2.2.2.1,y.2.2.2.2.1,y.2.2.2.2.2.1,y.2.2.2.2.2.2.1,y.2.2.2.2.2.2.2.1,y.2.2.2.2.2.2.2.2.1,y.2.2.2.2.2.2.2.2.2.1,()) ⟨out.length,Nat.le_refl _,fun k hk h => by omega,rfl⟩
 exact ⟨j,by rw [h1,h5],h2,h3,h4⟩
theorem insW_asc {b:List Want} (hb:b.Pairwise fun x y => cW x y = -1) (x:Want) (j:Nat) (hj:j ≤ b.length) (h1:∀ k (hk:k < b.length),j ≤ k → cW x b[k] < 0) (h2:∀ k (hk:k < b.length),k + 1 = j → cW b[k] x = -1) :
  (b.take j ++ [x] ++ b.drop j).Pairwise fun x y => cW x y = -1:=by
 have hx:∀ y ∈ b.drop j,cW x y = -1:=by
  intro y hy
  obtain ⟨k,hk,rfl⟩:=List.getElem_of_mem hy
  rw [List.length_drop] at hk
  rw [List.getElem_drop]
  have:=h1 (j + k) (by omega) (by omega)
  have:=lin_cmpT.rng (bs x.1) (bs (b[j + k]'(by omega)).1)
  unfold cW at *
  omega
 have hy:∀ y ∈ b.take j,cW y x = -1:=by
  intro y hy
  obtain ⟨k,hk,rfl⟩:=List.getElem_of_mem hy
  rw [List.length_take] at hk
  rw [List.getElem_take]
  have h3:=h2 (j - 1) (by omega) (by omega)
  by_cases he:k = j - 1
  ·subst he; exact h3
  ·have:=List.pairwise_iff_getElem.1 hb k (j - 1) (by omega) (by omega) (by omega)
   exact lin_cmpT.trans _ _ _ this h3
 have hb':(b.take j ++ b.drop j).Pairwise fun x y => cW x y = -1:=by rw [List.take_append_drop]; exact hb
 rw [List.pairwise_append] at hb' ⊢
 refine ⟨?_,hb'.2.1,fun a ha c hc => ?_⟩
 ·rw [List.pairwise_append]
  exact ⟨hb'.1,by simp,fun a ha c hc => by rw [List.mem_singleton.1 hc]; exact hy a ha⟩
 ·rcases List.mem_append.1 ha with ha | ha
  ·exact hb'.2.2 a ha c hc
  ·rw [List.mem_singleton.1 ha]; exact hx c hc
end Go.Vx.Z
/-! Wants: the document's are the program's. -/
namespace Go.Vx.Z
open Go Go.Vx
set_option linter.unusedVariables false
set_option maxRecDepth 100000
structure RelW (P R:List Want × List Trb):Prop where
 perm:P.1.Perm R.1
 trb:R.2 = P.2
 apart:Apart P.1
 asc:R.1.Pairwise fun x y => cW x y = -1
theorem judge_e {md:ByteArray} {x:Lock} {s:Fnd} {l:List Want} {t:Trb} (h:judge md x s l = some t):t.1 ≠ 0:=by
 unfold judge at h
 split at h
 ·rename_i he
  injection h with h
  rw [← h]
  exact he
 split at h
 ·injection h with h; rw [← h]; show (10:Int) ≠ 0; decide
 split at h
 ·injection h with h; rw [← h]; show (11:Int) ≠ 0; decide
 rw [Option.bind_eq_some_iff] at h
 obtain ⟨b,_,h⟩:=h
 split at h
 ·cases h
 ·injection h with h; rw [← h]; show (11:Int) ≠ 0; decide
theorem find_none_mem {l:List Want} {p:ByteArray} (h:l.find? (sameP p) = none):∀ z ∈ l,bs z.1 ≠ bs p:=fun z hz he => by
 rw [List.find?_eq_none] at h
 exact h z hz (by unfold sameP; simpa using he)
theorem B14_1_is {w:List Mod} {rv:List Rev} {md:ByteArray} {l:List Lock} (hw:GoodWd w rv) (hl:∀ x ∈ l,GoodK x) (hlen:l.length ≤ 900) {i:Nat} (hi:i < l.length) (P R:List Want × List Trb) (h1:P.1.length ≤ i) (h2:P.2.length ≤ i) (hR:RelW P R) :
  ∃ R',B14_1 (md,l,(i:Int),w,rv,R.1,R.2,()) = some (.inl (md,l,((i + 1:Nat):Int),w,rv,R'.1,R'.2,())) ∧ RelW (stepP w rv md P l[i]) R':=by
 obtain ⟨out,ts⟩:=R
 have hx:=hl _ (List.getElem_mem hi)
 have hol:out.length ≤ 900:=by have:=hR.perm.length_eq; simp only at this; omega
 have htl:ts.length ≤ 900:=by have:=congrArg List.length hR.trb; simp only at this; omega
 have hstep:stepP w rv md P l[i] = match judge md l[i] (whereOf w rv l[i]) P.1 with
   | some t => (P.1,P.2 ++ [t])
   | none => (if (P.1.find? (sameP (whereOf w rv l[i]).2.1)).isSome = true then P.1 else P.1 ++ [wantOf l[i] (whereOf w rv l[i])],P.2):=rfl
 rw [hstep]
 rw [B14_1_eq,lt_in hi,ge_zero,at_in hi,wrap_next hi (by omega)]
 simp only [cond_true,Option.bind_some]
 rw [F39_is hw hx out (by omega),Option.bind_some,judge_same hR.perm hR.apart]
 generalize l[i] = x at hx ⊢
 generalize whereOf w rv x = s
 cases hj:judge md x s P.1 with
 | some t =>
  have he:=judge_e hj
  simp only
  rw [show (!(trbs t).1 == Int.ofNat 0) = true by simpa [trbs] using he]
  refine ⟨(out,ts ++ [t]),?_,⟨hR.perm,by rw [show ts = P.2 from hR.trb],hR.apart,hR.asc⟩⟩
  simp only [cond_true]
  exact cdec (by simp; omega)
 | none =>
  simp only
  rw [show (!(trbs (trb 0 (lit []) (lit []) ver0 ver0)).1 == Int.ofNat 0) = false from rfl]
  simp only [cond_false]
  have hyp:(wantOf x s).1 = s.2.1:=rfl
  have hfind:P.1.find? (sameP s.2.1) = out.find? (sameP s.2.1):=find_perm hR.perm hR.apart s.2.1
  have hDo:Apart out:=apart_perm hR.perm hR.apart
  generalize hy:wantOf x s = y at hyp ⊢
  obtain ⟨j,g1,g2,g3,g4⟩:=B14_0_is md l (i:Int) w rv out ts y (by omega)
  rw [g1,Option.bind_some]
  simp only
  rw [wrap_next hi (by omega)]
  have k1:(decide (Int.ofNat 0 ≤ (j:Int)) && decide ((j:Int) ≤ Int.ofNat out.length)) = true:=by simp; exact g2
  have k2:decide (0 + (List.drop 0 (List.take (Int.toNat (j:Int)) out)).length ≤ 1256584717458) = true:=by simp; omega
  have k3:decide (([] ++ List.drop 0 (List.take (Int.toNat (j:Int)) out)).length + [y].length ≤ 1256584717458) = true:=by simp; omega
  have k4:(decide (Int.ofNat 0 ≤ (j:Int)) && (decide ((j:Int) ≤ Int.ofNat out.length) && decide (Int.ofNat out.length ≤ Int.ofNat out.length))) = true:=by simp; exact g2
  have k5:decide (([] ++ List.drop 0 (List.take (Int.toNat (j:Int)) out) ++ [y]).length + (List.drop (Int.toNat (j:Int)) (List.take (Int.toNat (Int.ofNat out.length)) out)).length ≤ 1256584717458) = true:=by simp; omega
  -- what is put in
  have hput:P.1.find? (sameP s.2.1) = none → (∀ k (hk:k < out.length),k + 1 = j → cW out[k] y = -1) → RelW (if (P.1.find? (sameP s.2.1)).isSome = true then P.1 else P.1 ++ [y],P.2) ([] ++ List.drop 0 (List.take (Int.toNat (j:Int)) out) ++ [y] ++ List.drop (Int.toNat (j:Int)) (List.take (Int.toNat (Int.ofNat out.length)) out),ts):=by
   intro hn hlo
   have e:[] ++ List.drop 0 (List.take (Int.toNat (j:Int)) out) ++ [y] ++ List.drop (Int.toNat (j:Int)) (List.take (Int.toNat (Int.ofNat out.length)) out) = out.take j ++ [y] ++ out.drop j:=by simp
   rw [e,hn]
   simp only [Option.isSome_none,Bool.false_eq_true,if_false]
   refine ⟨?_,hR.trb,?_,insW_asc hR.asc y j g2 g3 hlo⟩
   ·have p1:(P.1 ++ [y]).Perm (out ++ [y]):=hR.perm.append_right [y]
    have p2:(out.take j ++ out.drop j ++ [y]).Perm (out.take j ++ [y] ++ out.drop j):=by
     rw [List.append_assoc,List.append_assoc]
     exact List.Perm.append_left _ List.perm_append_comm
    rw [List.take_append_drop] at p2
    exact p1.trans p2
   ·unfold Apart
    rw [List.pairwise_append]
    refine ⟨hR.apart,by simp,fun a ha c hc => ?_⟩
    rw [List.mem_singleton.1 hc,hyp]
    exact find_none_mem hn a ha
  cases hf:P.1.find? (sameP s.2.1) with
  | none =>
   have hf2:=hf
   rw [hfind] at hf2
   have hne:=find_none_mem hf2
   have hlo:∀ k (hk:k < out.length),k + 1 = j → cW out[k] y = -1:=fun k hk hkj => by
    have a1:=g4 k hk hkj
    have a2:=hne out[k] (List.getElem_mem hk)
    have a3:=lin_cmpT.anti (bs y.1) (bs out[k].1)
    have a4:=lin_cmpT.rng (bs y.1) (bs out[k].1)
    have a5:cmpT (bs y.1) (bs out[k].1) ≠ 0:=fun e => a2 (by rw [← hyp]; exact ((lin_cmpT.eq0 _ _).1 e).symm)
    unfold cW at *
    omega
   have hr:=hput hf hlo
   rw [hf] at hr
   simp only [Option.isSome_none,Bool.false_eq_true,if_false] at hr ⊢
   refine ⟨_,?_,hr⟩
   by_cases h0:j = 0
   ·rw [show ((j:Int) == Int.ofNat 0) = true by rw [h0]; rfl,cond_true,k1,cond_true,k2,cond_true]
    refine Eq.trans (cdec ?_) ?_
    ·simp; omega
    rw [k4,cond_true]
    refine cdec ?_
    simp; omega
   ·have hj1:j - 1 < out.length:=by omega
    have hjz:((j:Int) == Int.ofNat 0) = false:=by simp; omega
    rw [hjz,cond_false,wrap_prev (show 1 ≤ j by omega) (show j ≤ 1000 by omega) (by omega),ge_zero,cond_true,at_in hj1,Option.bind_some]
    simp only [beq_bs]
    have hb:(bs out[j - 1].1 == bs y.1) = false:=by
     rw [← Bool.not_eq_true]
     intro e
     exact hne out[j - 1] (List.getElem_mem hj1) (by rw [← hyp]; simpa using e)
    rw [hb]
    simp only [Bool.not_false,cond_true]
    rw [k1,cond_true,k2,cond_true]
    refine Eq.trans (cdec ?_) ?_
    ·simp; omega
    rw [k4,cond_true]
    refine cdec ?_
    simp; omega
  | some z =>
   have hf2:=hf
   rw [hfind] at hf2
   have hz:=List.mem_of_find?_eq_some hf2
   have hzp:bs z.1 = bs y.1:=by have:=List.find?_some hf2; unfold sameP at this; rw [hyp]; simpa using this
   obtain ⟨k,hk,rfl⟩:=List.getElem_of_mem hz
   have hz0:cW y out[k] = 0:=by unfold cW; rw [hzp]; exact lin_cmpT.self _
   have hkj:k < j:=by
    rcases Nat.lt_or_ge k j with h | h
    ·exact h
    ·have:=g3 k hk h; omega
   have hj1:j - 1 < out.length:=by omega
   have hlast:bs out[j - 1].1 = bs y.1:=by
    by_cases he:k = j - 1
    ·subst he; exact hzp
    ·exfalso
     have a1:cW out[k] out[j - 1] = -1:=List.pairwise_iff_getElem.1 hR.asc k (j - 1) hk hj1 (by omega)
     have a2:=g4 (j - 1) hj1 (by omega)
     apply a2
     unfold cW at a1 ⊢
     rw [← hzp]
     omega
   have hjz:((j:Int) == Int.ofNat 0) = false:=by simp; omega
   rw [hjz,cond_false,wrap_prev (show 1 ≤ j by omega) (show j ≤ 1000 by omega) (by omega),ge_zero,cond_true,at_in hj1,Option.bind_some]
   simp only [beq_bs]
   rw [show (bs out[j - 1].1 == bs y.1) = true by simpa using hlast]
   simp only [Bool.not_true,cond_false,Option.isSome_some,if_true]
   exact ⟨(out,ts),rfl,hR.perm,hR.trb,hR.apart,hR.asc⟩
end Go.Vx.Z
/-! Wants: both, whole. -/
namespace Go.Vx.Z
open Go Go.Vx
set_option linter.unusedVariables false
set_option maxRecDepth 100000
theorem sortW_perm (l:List Want):(sortBy cmpWant l).Perm l:=by
 cases l with
 | nil => exact .refl _
 | cons x l =>
  unfold sortBy
  have hp:=pdq_range (swo_at lin_cmpT.swo fun i => bs ((x :: l).getD i x).1) (x :: l).length
  refine (hp.map _).trans ?_
  have:(List.range (x :: l).length).map (fun i => (x :: l).getD i x) = x :: l:=by
   apply List.ext_getElem
   ·simp
   ·intro i h1 h2
    simp only [List.getElem_map,List.getElem_range]
    rw [List.getD_eq_getElem?_getD,List.getElem?_eq_getElem h2]
    rfl
  rw [this]
theorem sortW_sorted (l:List Want):(sortBy cmpWant l).Pairwise fun a b => cmpWant b a < 0 → False:=by
 cases l with
 | nil => exact .nil
 | cons x l =>
  have hO:Sort.SWO (Proofs.ltOf fun i j => cmpWant ((x :: l).getD i x) ((x :: l).getD j x)):=swo_at lin_cmpT.swo fun i => bs ((x :: l).getD i x).1
  obtain ⟨_,h2⟩:=Sort.pdq_sorts _ hO (Array.range (x :: l).length) 0 (x :: l).length (Lib.bitLen (x :: l).length) true true (Nat.zero_le _) (by simp) (Or.inl rfl)
  unfold sortBy sortIdx
  rw [List.pairwise_map,List.pairwise_iff_getElem]
  intro i j hi hj hij hlt
  have hlen:=(pdq_range hO (x :: l).length).length_eq
  simp only [sortIdx,List.length_range] at hlen
  have h3:=h2 i j (Nat.zero_le _) hij (by omega)
  rw [getElem!_pos _ j (by simpa using hj),getElem!_pos _ i (by simpa using hi)] at h3
  simp only [Array.getElem_toList] at hlt
  unfold Proofs.ltOf at h3
  simp only [decide_eq_false_iff_not] at h3
  exact h3 hlt
theorem asc_uniq:∀ {a b:List Want},a.Perm b → (a.Pairwise fun x y => cW x y = -1) → (b.Pairwise fun x y => cW x y = -1) → a = b
 | [],b,h,_,_ => (List.nil_perm.1 h).symm
 | x :: a,[],h,_,_ => by have:=h.length_eq; simp at this
 | x :: a,y :: b,h,h1,h2 => by
  rw [List.pairwise_cons] at h1 h2
  have hxy:x = y:=by
   rcases List.mem_cons.1 (h.mem_iff.1 (List.mem_cons_self:x ∈ x :: a)) with e | e
   ·exact e
   ·rcases List.mem_cons.1 (h.mem_iff.2 (List.mem_cons_self:y ∈ y :: b)) with e' | e'
    ·exact e'.symm
    ·have a1:=h1.1 y e'
     have a2:=h2.1 x e
     have a3:=lin_cmpT.anti (bs x.1) (bs y.1)
     unfold cW at a1 a2
     omega
  subst hxy
  rw [asc_uniq ((List.perm_cons x).1 h) h1.2 h2.2]
theorem sort_is {P R:List Want × List Trb} (h:RelW P R):sortBy cmpWant P.1 = R.1:=by
 have hp:=sortW_perm P.1
 refine asc_uniq (hp.trans h.perm) ?_ h.asc
 have hA:Apart (sortBy cmpWant P.1):=apart_perm hp.symm h.apart
 refine ((sortW_sorted P.1).and hA).imp fun {a b} hab => ?_
 have a1:=lin_cmpT.rng (bs a.1) (bs b.1)
 have a2:=lin_cmpT.anti (bs a.1) (bs b.1)
 have a3:cmpT (bs a.1) (bs b.1) ≠ 0:=fun e => hab.2 ((lin_cmpT.eq0 _ _).1 e)
 have a4:¬ cmpT (bs b.1) (bs a.1) < 0:=hab.1
 unfold cW
 omega
theorem F14_is {w:List Mod} {rv:List Rev} {md:ByteArray} {l:List Lock} (hw:GoodWd w rv) (hl:∀ x ∈ l,GoodK x) (hlen:l.length ≤ 900) :
  ∃ R,F14 (w,rv,md,l,()) = some (R.1,R.2,()) ∧ RelW (runP w rv md l) R:=by
 rw [F14_eq]
 obtain ⟨R,h1,h2⟩:=loop_upto (B:=B14_1) l.length (fun i (R:List Want × List Trb) => (md,l,(i:Int),w,rv,R.1,R.2,())) (fun R => (R.1,R.2,())) (fun i R => RelW ((l.take i).foldl (stepP w rv md) ([],[])) R) (by
   rintro i hi R hR
   have hb:=fold_len (w:=w) (rv:=rv) (md:=md) (l.take i) ([],[])
   simp only [List.length_nil,List.length_take] at hb
   obtain ⟨R',g1,g2⟩:=B14_1_is hw hl hlen hi _ R (by omega) (by omega) hR
   refine ⟨R',g1,?_⟩
   rw [List.take_succ_eq_append_getElem hi,List.foldl_append]
   exact g2) (fun R _ => by rw [B14_1_eq,lt_out]; rfl) 0 ([],[]) (by omega) ⟨.refl _,rfl,.nil,.nil⟩
 have h1':loop B14_1 (md,l,Int.ofNat 0,w,rv,[],[],()) = some (R.1,R.2,()):=h1
 rw [h1',Option.bind_some]
 rw [List.take_length] at h2
 exact ⟨R,rfl,h2⟩
theorem wants_same {w:List Mod} {rv:List Rev} {md:ByteArray} {l:List Lock} (hw:GoodWd w rv) (hl:∀ x ∈ l,GoodK x) (hlen:l.length ≤ 900) :
  ∃ R:List Want × List Trb,F12 (w,rv,md,l,()) = some (R.1,R.2,()) ∧ F14 (w,rv,md,l,()) = some (R.1,R.2,()) ∧ RelW (runP w rv md l) R:=by
 obtain ⟨R,h1,h2⟩:=F14_is hw hl hlen (md:=md)
 refine ⟨R,?_,h1,h2⟩
 rw [F12_is hw hl (by omega),sort_is h2,h2.trb]
end Go.Vx.Z
/-! Rows held against themselves; a world that is made. -/
namespace Go.Vx.Z
open Go Go.Vx
set_option linter.unusedVariables false
set_option maxRecDepth 100000
theorem F16_is (l:List Want) (h:l.length ≤ 1000):F16 (l,()) = some (l,()):=by
 rw [F16_eq]
 have:=loop_fold (B:=B16_0) l (fun i (b:List Want) => (l,(i:Int),b,())) (fun b y => b ++ [y]) (fun b => (b,())) [] (fun i b => b.length ≤ i) (Nat.le_refl _) (by
  intro i hi b hb
  constructor
  ·rw [B16_0_eq,lt_in hi,ge_zero,at_in hi,wrap_next hi (by omega)]
   simp only [cond_true,Option.bind_some]
   exact cdec (by simp; omega)
  ·simp; omega) (fun b _ => by rw [B16_0_eq,lt_out]; rfl)
 have hf:∀ (k:List Want) b,k.foldl (fun b y => b ++ [y]) b = b ++ k:=by
  intro k
  induction k with
  | nil => intro b; simp
  | cons x k ih => intro b; rw [List.foldl_cons,ih]; simp
 rw [hf,List.nil_append] at this
 have this':loop B16_0 (l,Int.ofNat 0,[],()) = some (l,()):=this
 rw [this',Option.bind_some]
theorem F15_is (l:List Want) (h:l.length ≤ 1000):F15 (l,l,()) = some (true,()):=by
 rw [F15_eq]
 have:(!Int.ofNat l.length == Int.ofNat l.length) = false:=by simp
 rw [this,cond_false]
 have hl:loop B15_0 (l,l,Int.ofNat 0,()) = some (.inr ()):=by
  refine loop_row (B:=B15_0) (fun i => (l,l,(i:Int),())) l.length (fun i hi => ?_) (by rw [B15_0_eq,lt_out]; rfl)
  rw [B15_0_eq,lt_in hi,ge_zero,at_in hi,wrap_next hi (by omega)]
  simp only [cond_true,Option.bind_some,beq_self_eq_true,Bool.and_self,Bool.not_true,cond_false]
 rw [hl]
 rfl
theorem made_wd {n:Nat} {w:List Mod} {rv:List Rev} (h:Made n w) (hr:rv = revsL n):GoodWd w rv:=by
 have hn:=h.le
 have hl:=h.len
 have hmod:∀ m ∈ w,∃ k,k < 7 ∧ ModOK n k m:=fun m hm => by
  obtain ⟨k,hk,he⟩:=List.getElem_of_mem hm
  exact ⟨k,by omega,h.mods k m (by rw [List.getElem?_eq_getElem hk,he])⟩
 refine ⟨⟨by simp only [big]; omega,fun m hm => ?_⟩,by omega,fun p hp => ?_,by rw [hr,revsL_len]; omega,by rw [hr]; exact revK_ok n hn⟩
 ·obtain ⟨k,hk,h1,h2,h3⟩:=hmod m hm
  have:=congrArg List.length h2
  rw [List.length_map] at this
  have h4:=verL_len k
  refine ⟨by simp only [big]; omega,fun r hr => ?_⟩
  have:=(h3 r hr).1
  simp only [big]; omega
 ·obtain ⟨m,hm,rfl⟩:=List.mem_map.1 hp
  obtain ⟨k,hk,h1,_⟩:=hmod m hm
  rw [h1,List.getD_eq_getElem?_getD,List.getElem?_eq_getElem (show k < pathsL.length from hk)]
  exact List.getElem_mem _
end Go.Vx.Z
/-! Wants, on a list of one's own. -/
namespace Go.Vx.Z
open Go Go.Vx
set_option linter.unusedVariables false
set_option maxRecDepth 100000
theorem B12v1_is {w:List Mod} {rv:List Rev} {md:ByteArray} {l:List Lock} (hw:GoodWd w rv) (hl:∀ x ∈ l,GoodK x) (hlen:l.length ≤ 1000) {i:Nat} (hi:i < l.length) (b:List Want × List Trb) (h1:b.1.length ≤ i) (h2:b.2.length ≤ i) :
  B12v1_0 (md,Int.ofNat l.length,(i:Int),l,w,rv,b.1,b.2,()) = some (.inl (md,Int.ofNat l.length,((i + 1:Nat):Int),l,w,rv,(stepP w rv md b l[i]).1,(stepP w rv md b l[i]).2,())):=by
 obtain ⟨out,ts⟩:=b
 simp only at h1 h2 ⊢
 have hx:=hl _ (List.getElem_mem hi)
 have hok:=where_ok hw hx
 rw [B12v1_0_eq,lt_in hi,ge_zero,at_in hi,wrap_next hi (by omega)]
 generalize l[i] = x at hx hok ⊢
 simp only [cond_true,Bool.and_self,Option.bind_some]
 rw [F31_is hw.ok hw.len hw.path hw.rlen hw.rev hx.l hx.root,Option.bind_some]
 have eT:∀ t:Trb,decide (ts.length + [t].length ≤ 1172812402961) = true:=fun t => by rw [decide_eq_true_eq]; simp; omega
 have eW:∀ t:Want,decide (out.length + [t].length ≤ 1256584717458) = true:=fun t => by rw [decide_eq_true_eq]; simp; omega
 unfold stepP
 generalize hs:whereOf w rv x = s at hok ⊢
 have hout:s.e = 0 → F33 (x.1,x.2.1,x.2.2.1,x.2.2.2.1,x.2.2.2.2.1,s.2.2.2.1,s.2.2.2.2.1,s.2.2.2.2.2.1,s.2.2.2.2.2.2.1,()) = some (outB x.2.2.2.1 s.2.2.2,()):=fun he => F33_is _ _ _ _ _ s.2.2.2 hx.within (hok.of_e he).1
 simp only
 rw [F32v1_is s.2.1 out (by omega),Option.bind_some]
 by_cases he:s.e = 0
 ·have hj:judge md x s out = if outB x.2.2.2.1 s.2.2.2 = true then some (trb 10 x.1 s.2.1 s.2.2.2 ver0) else if bs s.2.1 = bs md then some (trb 11 x.1 s.2.1 s.2.2.2 ver0) else (out.find? (sameP s.2.1)).bind fun b => if eqW b (wantOf x s) = true then none else some (trb 11 x.1 s.2.1 s.2.2.2 b.v):=by
   unfold judge
   rw [if_neg (by simpa using he)]
  have hE:∀ (T:ByteArray × Int × Int × Int × ByteArray × Int × Unit),T.2.2.2.2.2.1 = s.e → (!T.2.2.2.2.2.1 == Int.ofNat 0) = false:=fun T hT => by rw [hT,he]; rfl
  have hTe:(if bl x.2.2.2.2.1 ≠ [] ∧ s.e = 0 then (x.2.2.2.2.1,s.2.2.2.1,s.2.2.2.2.1,s.2.2.2.2.2.1,s.2.2.2.2.2.2.1,s.e,()) else (lit [],(0:Int),(0:Int),(0:Int),lit [],s.e,())).2.2.2.2.2.1 = s.e:=by split <;> rfl
  have hW:∀ y:Unit,wantOf x s = (s.2.1,s.2.2.2.1,s.2.2.2.2.1,s.2.2.2.2.2.1,s.2.2.2.2.2.2.1,(if bl x.2.2.2.2.1 ≠ [] ∧ s.e = 0 then (x.2.2.2.2.1,s.2.2.2.1,s.2.2.2.2.1,s.2.2.2.2.2.1,s.2.2.2.2.2.2.1,s.e,()) else (lit [],(0:Int),(0:Int),(0:Int),lit [],s.e,())).1,
    (if bl x.2.2.2.2.1 ≠ [] ∧ s.e = 0 then (x.2.2.2.2.1,s.2.2.2.1,s.2.2.2.2.1,s.2.2.2.2.2.1,s.2.2.2.2.2.2.1,s.e,()) else (lit [],(0:Int),(0:Int),(0:Int),lit [],s.e,())).2.1,
    (if bl x.2.2.2.2.1 ≠ [] ∧ s.e = 0 then (x.2.2.2.2.1,s.2.2.2.1,s.2.2.2.2.1,s.2.2.2.2.2.1,s.2.2.2.2.2.2.1,s.e,()) else (lit [],(0:Int),(0:Int),(0:Int),lit [],s.e,())).2.2.1,
    (if bl x.2.2.2.2.1 ≠ [] ∧ s.e = 0 then (x.2.2.2.2.1,s.2.2.2.1,s.2.2.2.2.1,s.2.2.2.2.2.1,s.2.2.2.2.2.2.1,s.e,()) else (lit [],(0:Int),(0:Int),(0:Int),lit [],s.e,())).2.2.2.1,
    (if bl x.2.2.2.2.1 ≠ [] ∧ s.e = 0 then (x.2.2.2.2.1,s.2.2.2.1,s.2.2.2.2.1,s.2.2.2.2.2.1,s.2.2.2.2.2.2.1,s.e,()) else (lit [],(0:Int),(0:Int),(0:Int),lit [],s.e,())).2.2.2.2.1,()):=fun _ => by
   unfold wantOf
   split <;> rfl
  have hW:=hW ()
  generalize (if bl x.2.2.2.2.1 ≠ [] ∧ s.e = 0 then (x.2.2.2.2.1,s.2.2.2.1,s.2.2.2.2.1,s.2.2.2.2.2.1,s.2.2.2.2.2.2.1,s.e,()) else (lit [],(0:Int),(0:Int),(0:Int),lit [],s.e,())) = T at hTe hW ⊢
  rw [hE T hTe,hout he]
  simp only [cond_false,Option.bind_some]
  rw [hj]
  cases ho:outB x.2.2.2.1 s.2.2.2 with
  | true =>
   simp only [cond_true,if_true]
   rw [eT]
   cases out.find? (sameP s.2.1) <;> rfl
  | false =>
   simp only [cond_false,Bool.false_eq_true,if_false,beq_bs]
   cases hm:(bs s.2.1 == bs md) with
   | true =>
    rw [if_pos (by simpa using hm)]
    simp only [cond_true]
    rw [eT]
    cases out.find? (sameP s.2.1) <;> rfl
   | false =>
    rw [if_neg (by simpa using hm)]
    simp only [cond_false]
    cases hf:out.find? (sameP s.2.1) with
    | none =>
     simp only [Option.elim_none,cond_false,Bool.not_false,cond_true,Option.bind_none,Option.isSome_none,Bool.false_eq_true,if_false]
     rw [hW]
     simp only [List.length_cons,List.length_nil]
     exact cdec (by omega)
    | some y =>
     simp only [Option.elim_some,cond_true,Bool.not_true,cond_false,Option.bind_some,Option.isSome_some,if_true]
     have hq:eqW y (wantOf x s) = (bs y.1 == bs s.2.1 && ((y.2.1 == s.2.2.2.1 && (y.2.2.1 == s.2.2.2.2.1 && (y.2.2.2.1 == s.2.2.2.2.2.1 && bs y.2.2.2.2.1 == bs s.2.2.2.2.2.2.1))) && (bs y.2.2.2.2.2.1 == bs T.1 && (y.2.2.2.2.2.2.1 == T.2.1 && (y.2.2.2.2.2.2.2.1 == T.2.2.1 && (y.2.2.2.2.2.2.2.2.1 == T.2.2.2.1 && bs y.2.2.2.2.2.2.2.2.2.1 == bs T.2.2.2.2.1)))))):=by rw [hW]; rfl
     rw [hq]
     cases (bs y.1 == bs s.2.1 && ((y.2.1 == s.2.2.2.1 && (y.2.2.1 == s.2.2.2.2.1 && (y.2.2.2.1 == s.2.2.2.2.2.1 && bs y.2.2.2.2.1 == bs s.2.2.2.2.2.2.1))) && (bs y.2.2.2.2.2.1 == bs T.1 && (y.2.2.2.2.2.2.1 == T.2.1 && (y.2.2.2.2.2.2.2.1 == T.2.2.1 && (y.2.2.2.2.2.2.2.2.1 == T.2.2.2.1 && bs y.2.2.2.2.2.2.2.2.2.1 == bs T.2.2.2.2.1)))))) with
     | true => rfl
     | false =>
      simp only [Bool.not_false,cond_true,Bool.false_eq_true,if_false]
      rw [eT]
      rfl
 ·have hj:judge md x s out = some (trb s.e x.1 (lit []) ver0 ver0):=by
   unfold judge
   rw [if_pos he]
  rw [if_neg (fun h => he h.2),hj]
  have hE:(!s.e == Int.ofNat 0) = true:=by simpa using he
  simp only [hE,cond_true]
  rw [eT]
  cases out.find? (sameP s.2.1) <;> rfl
theorem F12v1_is {w:List Mod} {rv:List Rev} {md:ByteArray} {l:List Lock} (hw:GoodWd w rv) (hl:∀ x ∈ l,GoodK x) (hlen:l.length ≤ 1000) :
  F12v1 (w,rv,md,l,()) = some (sortBy cmpWant (runP w rv md l).1,(runP w rv md l).2,l,()):=by
 rw [F12v1_eq]
 have:=loop_fold (B:=B12v1_0) l (fun i (b:List Want × List Trb) => (md,Int.ofNat l.length,(i:Int),l,w,rv,b.1,b.2,())) (stepP w rv md) (fun b => (l,b.1,b.2,())) ([],[]) (fun i b => b.1.length ≤ i ∧ b.2.length ≤ i) ⟨Nat.le_refl _,Nat.le_refl _⟩ (by
  intro i hi b hb
  refine ⟨B12v1_is hw hl hlen hi b hb.1 hb.2,?_⟩
  have h2:=stepP_len (w:=w) (rv:=rv) (md:=md) (b:=b) (x:=l[i])
  omega) (fun b _ => by rw [B12v1_0_eq,lt_out]; rfl)
 have this':loop B12v1_0 (md,Int.ofNat l.length,Int.ofNat 0,l,w,rv,[],[],()) = some (l,(runP w rv md l).1,(runP w rv md l).2,()):=this
 rw [this',Option.bind_some]
 have hb:=fold_len (w:=w) (rv:=rv) (md:=md) l ([],[])
 have h1:(runP w rv md l).1.length ≤ 1000:=by unfold runP; simp only [List.length_nil] at hb; omega
 have h2:(runP w rv md l).2.length ≤ 1000:=by unfold runP; simp only [List.length_nil] at hb; omega
 generalize runP w rv md l = b at h1 h2
 have h34:F34 (b.1,()) = some (sortBy cmpWant b.1,()):=by
  unfold F34 FSort
  have e:(b.1.all okWant && decide (b.1.length < 4611686018427387904)) = true:=by
   rw [Bool.and_eq_true]
   exact ⟨List.all_eq_true.2 fun _ _ => rfl,decide_eq_true (by omega)⟩
  simp only
  rw [e]
  rfl
 simp only
 rw [h34,Option.bind_some]
 simp only
 rw [F37_eq,Nat.ble_eq_true_of_le (by rw [sort_len]; omega)]
 simp only [cond_true,Option.bind_some]
 rw [F38_eq,Nat.ble_eq_true_of_le (by omega)]
 rfl
end Go.Vx.Z
/-! Locks that are made: small steps. -/
namespace Go.Vx.Z
open Go Go.Vx
set_option linter.unusedVariables false
set_option maxRecDepth 100000
theorem divN (n k:Nat) (h:n ≤ 4611686018427387904):IntKind.wrap IntKind.i64 (Int.tdiv (n:Int) (Int.ofNat k)) = ((n / k:Nat):Int):=by
 have e:Int.tdiv (n:Int) (Int.ofNat k) = ((n / k:Nat):Int):=rfl
 rw [e]
 have:=Nat.div_le_self n k
 generalize n / k = m at this ⊢
 exact wrap64 (by omega) (by omega)
theorem modN (n k:Nat):Int.tmod (n:Int) (Int.ofNat k) = ((n % k:Nat):Int):=rfl
theorem F30_is (p:ByteArray):∃ k:Nat,k < 7 ∧ F30 (p,()) = some ((k:Int),()):=by
 rw [F30_eq]
 obtain ⟨e,h1,h2⟩:=loop_idx (B:=B30_0) pathsL (fun i => (p,(i:Int),pathsL,())) (fun y => bs y == bs p) (fun i _ => .inl ((i:Int),())) (.inr ()) (by
  intro i hi
  have hi7:i < 7:=hi
  rw [B30_0_eq,show decide ((i:Int) < Int.ofNat 7) = true by simp; omega,ge_zero,at_in hi,wrap_next hi7 (by omega)]
  simp only [cond_true,Option.bind_some,beq_bs]
  cases bs pathsL[i] == bs p <;> rfl) (by rw [B30_0_eq]; rfl)
 have h1':loop B30_0 (p,Int.ofNat 0,[(lit [97]),(lit [97,47,115,117,98]),(lit [98,47,99]),(lit [98,47,99,47,118,50]),(lit [100]),(lit [101,47,118,51]),(lit [101,47,118,52])],()) = some e:=h1
 rw [h1',Option.bind_some]
 rcases h2 with ⟨_,rfl⟩ | ⟨i,hi,_,_,_,rfl⟩
 ·exact ⟨0,by omega,rfl⟩
 ·exact ⟨i,hi,rfl⟩
def RootsApart (l:List Lock):Prop:=l.Pairwise fun a b => bs a.1 ≠ bs b.1
structure LockInv (i:Nat) (l:List Lock):Prop where
 len:l.length ≤ i
 good:∀ x ∈ l,GoodK x
 apart:RootsApart l
theorem there_is (ns:List Int) (i:Int) (n:Int) (q:Bool) (w:List Mod) (rv:List Rev) (l:List Lock) (x:Lock) (hl:l.length ≤ 1000) :
  loop B11_0 (ns,i,false,Int.ofNat 0,n,q,w,rv,l,x.1,x.2.1,x.2.2.1,x.2.2.2.1,x.2.2.2.2.1,()) = some (ns,i,l.any (fun y => bs y.1 == bs x.1),n,q,w,rv,l,x.1,x.2.1,x.2.2.1,x.2.2.2.1,x.2.2.2.2.1,()):=by
 have:=loop_fold (B:=B11_0) l (fun k (b:Bool) => (ns,i,b,(k:Int),n,q,w,rv,l,x.1,x.2.1,x.2.2.1,x.2.2.2.1,x.2.2.2.2.1,())) (fun b y => b || bs y.1 == bs x.1) (fun b => (ns,i,b,n,q,w,rv,l,x.1,x.2.1,x.2.2.1,x.2.2.2.1,x.2.2.2.2.1,())) false (fun _ _ => True) trivial (by
  intro k hk b _
  refine ⟨?_,trivial⟩
  rw [B11_0_eq,lt_in hk,ge_zero,at_in hk,wrap_next hk (by omega)]
  simp only [cond_true,Option.bind_some,beq_bs]
  cases b <;> rfl) (fun b _ => by rw [B11_0_eq,lt_out]; rfl)
 have hf:∀ (k:List Lock) b,k.foldl (fun b y => b || bs y.1 == bs x.1) b = (b || k.any fun y => bs y.1 == bs x.1):=by
  intro k
  induction k with
  | nil => intro b; simp
  | cons y k ih => intro b; rw [List.foldl_cons,ih,List.any_cons,Bool.or_assoc]
 rw [hf,Bool.false_or] at this
 exact this
theorem leaf11 (ns:List Int) (i:Nat) (n:Int) (q:Bool) (w:List Mod) (rv:List Rev) (l:List Lock) (x:Lock) (hi:i ≤ 900) (hl:LockInv i l) (hx:GoodK x) :
  ∃ l',(Option.bind (loop B11_0 (ns,(i:Int),false,Int.ofNat 0,n,q,w,rv,l,x.1,x.2.1,x.2.2.1,x.2.2.2.1,x.2.2.2.2.1,())) kt11) =
   some (.inl (ns,((i + 1:Nat):Int),w,rv,l',()):(List Int × Int × List R2 × List R3 × List R7 × Unit) ⊕ (List R7 × Unit)) ∧ LockInv (i + 1) l':=by
 have hll:=hl.len
 rw [there_is ns i n q w rv l x (by omega),Option.bind_some]
 unfold kt11
 simp only
 have hw:IntKind.wrap IntKind.i64 ((i:Int) + Int.ofNat 1) = ((i + 1:Nat):Int):=by
  rw [show (i:Int) + Int.ofNat 1 = (i:Int) + 1 by simp]
  exact wrap64s i (by omega)
 rw [hw]
 cases ht:l.any (fun y => bs y.1 == bs x.1) with
 | true => exact ⟨l,rfl,by omega,hl.good,hl.apart⟩
 | false =>
  refine ⟨l ++ [x],cdec (by simp; omega),by simp; omega,fun y hy => ?_,?_⟩
  ·rcases List.mem_append.1 hy with h | h
   ·exact hl.good y h
   ·rw [List.mem_singleton.1 h]; exact hx
  ·unfold RootsApart
   rw [List.pairwise_append]
   refine ⟨hl.apart,by simp,fun a ha c hc => ?_⟩
   rw [List.mem_singleton.1 hc]
   intro e
   rw [List.any_eq_false] at ht
   exact ht a ha (by simpa using e)
end Go.Vx.Z
/-! Locks that are made. -/
namespace Go.Vx.Z
open Go Go.Vx
set_option linter.unusedVariables false
set_option maxRecDepth 100000
def rt7:List ByteArray:=[(lit [97]),(lit [97,47,115,117,98]),(lit [98,47,99]),(lit [98,47,99]),(lit [100]),(lit [101]),(lit [101])]
def sf5:List ByteArray:=[(lit []),(lit []),(lit []),(lit [47,120]),(lit [47,120,47,121])]
theorem rt7_mem:∀ y ∈ rt7,y ∈ rootsK:=by simp [rt7,rootsK]
theorem sf5_mem:∀ y ∈ sf5,y ∈ sufK:=by simp [sf5,sufK]
theorem fits_rs:(rootsK.all fun r => sufK.all fun f => fitsS r f) = true:=by kernel_rfl
theorem fitsS_is {r f:ByteArray} (hr:r ∈ rootsK) (hf:f ∈ sufK):fitsS r f = true:=List.all_eq_true.1 (List.all_eq_true.1 fits_rs r hr) f hf
theorem text_is {v:Ver} (hv:v ∈ verA):F20 (v.1,v.2.1,v.2.2.1,v.2.2.2.1,()) = some (textV v,()):=by
 have h:=List.all_eq_true.1 text_all v hv
 unfold textOK at h
 simp only [Bool.and_eq_true] at h
 rw [PF20_ok]
 unfold textV
 cases h1:PF20 (v.1,v.2.1,v.2.2.1,v.2.2.2.1,()) with
 | none => rw [h1] at h; cases h.1
 | some q => rfl
theorem verL_mem {k:Nat} (hk:k < 7) {v:Ver} (hv:v ∈ verL k):v ∈ verA:=List.mem_flatMap.2 ⟨k,List.mem_range.2 hk,hv⟩
theorem verL_pos (k:Nat):0 < (verL k).length:=by unfold verL versK; simp
theorem B11_1_is {n:Nat} {w:List Mod} {rv:List Rev} (h:Made n w) (hrv:rv = revsL n) (ns:List Int) (i:Nat) (hi:i < ns.length) (hi7:i < 7) (l:List Lock) (hl:LockInv i l) :
  ∃ l',B11_1 (ns,(i:Int),w,rv,l,()) = some (.inl (ns,((i + 1:Nat):Int),w,rv,l',())) ∧ LockInv (i + 1) l':=by
 have hwl:=h.len
 have hn:=h.le
 have hnp:=h.pos
 have hw0:0 < w.length:=by omega
 have hrl:rv.length = 5 * n:=by rw [hrv,revsL_len]
 have hr0:0 < rv.length:=by omega
 rw [B11_1_eq,lt_in hi,show decide ((i:Int) < Int.ofNat 7) = true by simp; omega,ge_zero,at_in hi]
 simp only [cond_true,Option.bind_some]
 obtain ⟨N,hN,e1⟩:=F18_is ns[i] 1099511627776 (by omega) (by omega)
 have e1':F18 (ns[i],Int.ofNat 1099511627776,()) = some ((N:Int),()):=e1
 rw [e1',Option.bind_some]
 simp only
 rw [divN N 7 (by omega),divN (N / 7) 7 (by omega),divN (N / 7 / 7) 5 (by omega),divN (N / 7 / 7 / 5) 4 (by omega),divN (N / 7 / 7 / 5) 16 (by omega),divN (N / 7 / 7 / 5 / 16) 4 (by omega),divN (N / 7 / 7 / 5 / 16) 32 (by omega),divN (N / 7 / 7 / 5 / 16 / 32) 5 (by omega)]
 simp only [modN,ge_zero,cond_true]
 have d0:decide (Int.ofNat w.length = Int.ofNat 0) = false:=decide_eq_false fun e => by have:=Int.ofNat.inj e; omega
 have d1:decide (Int.ofNat rv.length = Int.ofNat 0) = false:=decide_eq_false fun e => by have:=Int.ofNat.inj e; omega
 have d2:decide (Int.ofNat rv.length > Int.ofNat 0) = true:=decide_eq_true (Int.ofNat_lt.2 hr0)
 rw [d0,d1,d2]
 have hx1:N % w.length < w.length:=Nat.mod_lt _ hw0
 simp only [Bool.not_false,cond_true]
 rw [at_in hx1,Option.bind_some]
 have hm1:=List.getElem_mem hx1
 obtain ⟨k,hk7,hk⟩:∃ k,k < 7 ∧ ModOK n k w[N % w.length]:=⟨N % w.length,by omega,h.mods _ _ (List.getElem?_eq_getElem hx1)⟩
 have hwm:∀ m ∈ w,m.1 ∈ pathsL:=fun m hm => (made_wd h hrv).path _ (List.mem_map.2 ⟨m,hm,rfl⟩)
 generalize w[N % w.length] = m at hm1 hk
 have hrel0:0 < m.2.1.length:=by have:=congrArg List.length hk.2.1; rw [List.length_map] at this; have:=verL_pos k; omega
 have d3:decide (Int.ofNat m.2.1.length = Int.ofNat 0) = false:=decide_eq_false fun e => by have:=Int.ofNat.inj e; omega
 rw [d3]
 have hx2:N / 7 % m.2.1.length < m.2.1.length:=Nat.mod_lt _ hrel0
 simp only [Bool.not_false,cond_true]
 rw [at_in hx2,Option.bind_some]
 have hy1:Rel.v m.2.1[N / 7 % m.2.1.length] ∈ verA:=verL_mem hk7 (by rw [← hk.2.1]; exact List.mem_map.2 ⟨_,List.getElem_mem hx2,rfl⟩)
 generalize m.2.1[N / 7 % m.2.1.length] = rel at hy1
 obtain ⟨k1,hk1,e2⟩:=F30_is m.1
 rw [e2,Option.bind_some]
 obtain ⟨k2,hk2,e3⟩:=F18_is (k1:Int) 7 (by omega) (by omega)
 have e3':F18 ((k1:Int),Int.ofNat 7,()) = some ((k2:Int),()):=e3
 simp only
 rw [e3',Option.bind_some]
 simp only [ge_zero,cond_true]
 have e4:rt7[Int.toNat (k2:Int)]? = some rt7[k2]:=at_in (xs:=rt7) hk2
 have e4':[(lit [97]),(lit [97,47,115,117,98]),(lit [98,47,99]),(lit [98,47,99]),(lit [100]),(lit [101]),(lit [101])][Int.toNat (k2:Int)]? = some rt7[k2]:=e4
 rw [e4',Option.bind_some]
 have hrt:rt7[k2] ∈ rootsK:=rt7_mem _ (List.getElem_mem hk2)
 generalize rt7[k2] = rt at hrt
 have hx3:N / 7 / 7 % 5 < 5:=Nat.mod_lt _ (by omega)
 have e5:[(lit []),(lit []),(lit []),(lit [47,120]),(lit [47,120,47,121])][Int.toNat ((N / 7 / 7 % 5:Nat):Int)]? = some (sf5[N / 7 / 7 % 5]'hx3):=at_in (xs:=sf5) hx3
 rw [e5,Option.bind_some]
 have hsf:sf5[N / 7 / 7 % 5]'hx3 ∈ sufK:=sf5_mem _ (List.getElem_mem hx3)
 generalize sf5[N / 7 / 7 % 5]'hx3 = sf at hsf
 rw [fitsS_is hrt hsf]
 simp only [cond_true]
 have e6:=text_is hy1
 have e6':F20 (rel.1,rel.2.1,rel.2.2.1,rel.2.2.2.1,()) = some (textV (Rel.v rel),()):=e6
 rw [e6',Option.bind_some]
 simp only
 have hT:GoodT (textV (Rel.v rel)):=.inr ⟨_,hy1,rfl⟩
 generalize textV (Rel.v rel) = tx at hT
 have hx8:N / 7 / 7 / 5 / 16 / 4 % 8 < 8:=Nat.mod_lt _ (by omega)
 have e8:[lit [42],lit [62,61,118,49,46,48,46,48],lit [60,118,49,46,50,46,48],lit [94,118,49,46,48,46,48],lit [126,118,49,46,49,46,48],lit [118,49,46,120],lit [120],lit [118,51,46,120,32,124,124,32,118,50,46,120]][Int.toNat ((N / 7 / 7 / 5 / 16 / 4 % 8:Nat):Int)]? = some (withinD[N / 7 / 7 / 5 / 16 / 4 % 8]'hx8):=at_in (xs:=withinD) hx8
 have hwt:withinD[N / 7 / 7 / 5 / 16 / 4 % 8]'hx8 ∈ withinD:=List.getElem_mem hx8
 have hx9:N / 7 / 7 / 5 / 16 / 32 / 5 % w.length < w.length:=Nat.mod_lt _ hw0
 have e9:w[Int.toNat ((N / 7 / 7 / 5 / 16 / 32 / 5 % w.length:Nat):Int)]? = some w[N / 7 / 7 / 5 / 16 / 32 / 5 % w.length]:=at_in hx9
 have hm2:w[N / 7 / 7 / 5 / 16 / 32 / 5 % w.length].1 ∈ pathsL:=hwm _ (List.getElem_mem hx9)
 generalize w[N / 7 / 7 / 5 / 16 / 32 / 5 % w.length] = m2 at e9 hm2
 generalize withinD[N / 7 / 7 / 5 / 16 / 4 % 8]'hx8 = wt at e8 hwt
 have hx10:N / 7 / 7 / 5 / 4 % rv.length < rv.length:=Nat.mod_lt _ hr0
 have e10:rv[Int.toNat ((N / 7 / 7 / 5 / 4 % rv.length:Nat):Int)]? = some rv[N / 7 / 7 / 5 / 4 % rv.length]:=at_in hx10
 generalize rv[N / 7 / 7 / 5 / 4 % rv.length] = rr at e10
 simp only [e8,e9,e10,Option.bind_some]
 have hb:(decide (Int.ofNat 0 ≤ bif decide (IntKind.wrap IntKind.i64 (Int.ofNat 12 + ((N / 7 / 7 / 5 / 4 % 9:Nat):Int)) < Int.ofNat rr.2.1.size) then IntKind.wrap IntKind.i64 (Int.ofNat 12 + ((N / 7 / 7 / 5 / 4 % 9:Nat):Int)) else Int.ofNat rr.2.1.size) && decide ((bif decide (IntKind.wrap IntKind.i64 (Int.ofNat 12 + ((N / 7 / 7 / 5 / 4 % 9:Nat):Int)) < Int.ofNat rr.2.1.size) then IntKind.wrap IntKind.i64 (Int.ofNat 12 + ((N / 7 / 7 / 5 / 4 % 9:Nat):Int)) else Int.ofNat rr.2.1.size) ≤ Int.ofNat rr.2.1.size)) = true:=by
  have hq:N / 7 / 7 / 5 / 4 % 9 < 9:=Nat.mod_lt _ (by omega)
  generalize N / 7 / 7 / 5 / 4 % 9 = q at hq
  rw [wrap64 (by simp; omega) (by simp; omega)]
  cases hc:decide (Int.ofNat 12 + (q:Int) < Int.ofNat rr.2.1.size) with
  | true =>
   have:=of_decide_eq_true hc
   rw [cond_true,Bool.and_eq_true,decide_eq_true_eq,decide_eq_true_eq]
   exact ⟨by simp; omega,by omega⟩
  | false =>
   rw [cond_false,Bool.and_eq_true,decide_eq_true_eq,decide_eq_true_eq]
   exact ⟨by simp,Int.le_refl _⟩
 rw [hb]
 generalize (ByteArray.extract rr.2.1 0 (Int.toNat (bif decide (IntKind.wrap IntKind.i64 (Int.ofNat 12 + ((N / 7 / 7 / 5 / 4 % 9:Nat):Int)) < Int.ofNat rr.2.1.size) then IntKind.wrap IntKind.i64 (Int.ofNat 12 + ((N / 7 / 7 / 5 / 4 % 9:Nat):Int)) else Int.ofNat rr.2.1.size))) = rid
 have hA:GoodRt (rt ++ sf):=.inr ⟨rt,hrt,sf,hsf,rfl⟩
 have hB:GoodRt rt:=.inr ⟨rt,hrt,lit [],by simp [sufK],by apply bs_inj; rw [bs_append]; simp [bs,lit]⟩
 cases (((N / 7 / 7 / 5 / 16 % 4:Nat):Int) == Int.ofNat 0) <;> cases (((N / 7 / 7 / 5 / 16 / 32 % 5:Nat):Int) == Int.ofNat 0) <;> cases (((N / 7 / 7 / 5 / 16 / 32 % 31:Nat):Int) == Int.ofNat 7) <;> cases (((N / 7 / 7 / 5 % 4:Nat):Int) == Int.ofNat 0) <;> cases decide (((N / 7 / 7 / 5 / 4 % 3:Nat):Int) > Int.ofNat 0)
 all_goals
  simp only [cond_true,cond_false]
  refine leaf11 ns i _ _ w rv l (_,_,_,_,_,()) (by omega) hl ⟨⟨?_,?_⟩,?_,?_⟩
  ·first
   | exact .inl rfl
   | exact hT
  ·first
   | exact .inl rfl
   | exact .inr hm2
  ·first
   | exact .inl rfl
   | exact hA
   | exact hB
  ·first
   | exact .inl rfl
   | exact .inr hwt
end Go.Vx.Z
/-! What one lock of a module's root finds. -/
namespace Go.Vx.Z
open Go Go.Vx
set_option linter.unusedVariables false
set_option maxRecDepth 100000
section
variable {w:List Mod} {rv:List Rev} {x:Lock} {v:Ver}
structure DeepI (v:Ver) (s:Fnd):Prop where
 ge:-1 ≤ s.2.2.1
 at_:0 ≤ s.2.2.1 → s.2.2.2 = v ∧ s.2.2.1 = (rootOf s.2.1).size
end
end Go.Vx.Z
namespace Go.Vx.Z
open _root_.Int (ofNat toNat)
open IntKind (wrap)
open _root_.ByteArray (size)
open _root_.List (length)
open _root_.Sum (inl inr elim)
open Go Go.Vx Go.Proofs
set_option linter.unusedVariables false
set_option maxRecDepth 1000000
set_option maxHeartbeats 4000000
theorem B5_0_eq (x0:List Int) (x1:List R7) (x2:Int) (x3:List R2) (x4:List R3) (x5:List R7):B5_0 (x0,x1,x2,x3,x4,x5,()) =
 bif decide (x2 < ofNat (length x0)) then bif decide (x2 < ofNat 10) then bif decide (ofNat (length x5) > ofNat 0) then bif !decide (ofNat (length x5) = ofNat 0) then bif decide (ofNat 0 ≤ x2) then Option.bind x0[toNat x2]? fun y => Option.bind (F18 (y,ofNat (length x5),())) fun r => bif decide (ofNat 0 ≤ r.1) && decide (r.1 < ofNat (length x5)) then Option.bind x5[toNat r.1]? fun y => bif decide (ofNat 0 ≤ Int.tmod x2 (ofNat (length x5))) && decide (Int.tmod x2 (ofNat (length x5)) < ofNat (length x5)) then Option.bind x5[toNat (Int.tmod x2 (ofNat (length x5)))]? fun y_1 => bif decide (ofNat 0 ≤ Int.tmod x2 (ofNat (length x5))) && decide (Int.tmod x2 (ofNat (length x5)) < ofNat (length x5)) then Option.bind x5[toNat (Int.tmod x2 (ofNat (length x5)))]? fun y_2 => bif decide (ofNat 0 ≤ r.1) && decide (r.1 < ofNat (length (List.set x5 (toNat (Int.tmod x2 (ofNat (length x5)))) (y.1,y.2.1,y.2.2.1,y.2.2.2.1,y.2.2.2.2.1,())))) then Option.bind (List.set x5 (toNat (Int.tmod x2 (ofNat (length x5)))) (y.1,y.2.1,y.2.2.1,y.2.2.2.1,y.2.2.2.2.1,()))[toNat r.1]? fun y_3 => some (inl (x0,x1,wrap .i64 (x2 + ofNat 1),x3,x4,List.set (List.set x5 (toNat (Int.tmod x2 (ofNat (length x5)))) (y.1,y.2.1,y.2.2.1,y.2.2.2.1,y.2.2.2.2.1,())) (toNat r.1) (y_1.1,y_1.2.1,y_1.2.2.1,y_1.2.2.2.1,y_1.2.2.2.2.1,()),())) else none else none else none else none else none else none else some (inr (x1,x3,x4,x5,())) else some (inr (x1,x3,x4,x5,())) else some (inr (x1,x3,x4,x5,())):=by kernel_rfl
theorem F5_eq (x0:Int) (x1 x2 x3:List Int):F5 (x0,x1,x2,x3,()) =
 Option.bind (F10 (x0,x1,true,())) fun r => Option.bind (F11 (r.1,r.2.1,x2,())) fun r_1 => bif decide (0 + length r_1.1 ≤ 1759218604441) then Option.bind (loop B5_0 (x3,r_1.1,ofNat 0,r.1,r.2.1,[] ++ r_1.1,())) fun r => Option.bind (F12 (r.2.1,r.2.2.1,(lit [109,97,105,110]),r.1,())) fun r_2 => Option.bind (F12v1 (r.2.1,r.2.2.1,(lit [109,97,105,110]),r.2.2.2.1,())) fun r => bif (ofNat (length r_2.2.1) == ofNat 0) == (ofNat (length r.2.1) == ofNat 0) then bif decide (ofNat (length r_2.2.1) > ofNat 0) then some (true,()) else Option.bind (F16 (r_2.1,())) fun r_3 => Option.bind (F16 (r.1,())) fun r => Option.bind (F15 (r_3.1,r.1,())) fun r => some (r.1,()) else some (false,()) else none:=by kernel_rfl
end Go.Vx.Z
/-! What one lock, two locks of a module's root want. -/
namespace Go.Vx.Z
open Go Go.Vx
set_option linter.unusedVariables false
set_option maxRecDepth 100000
theorem pick {n:Nat} {w:List Mod} (h:Made n w) {i:Nat} (hi:i < w.length):w[i].1 = pathsL.getD i (lit []) ∧ 0 < w[i].2.1.length ∧ w[i].2.1.length ≤ 6 ∧ ∀ j (hj:j < w[i].2.1.length),Rel.v (w[i].2.1[j]) ∈ verL i:=by
 have hm:=h.mods i _ (List.getElem?_eq_getElem hi)
 have hl:=congrArg List.length hm.2.1
 rw [List.length_map] at hl
 have h1:=verL_pos i
 have h2:=verL_len i
 refine ⟨hm.1,by omega,by omega,fun j hj => ?_⟩
 rw [← hm.2.1]
 exact List.mem_map.2 ⟨_,List.getElem_mem hj,rfl⟩
end Go.Vx.Z
/-! Of any world, any locks what is wanted, what is troubled, is the document's. -/
namespace Go.Vx.Z
open Go Go.Vx
set_option linter.unusedVariables false
set_option maxRecDepth 100000
theorem F11_is {n:Nat} {w:List Mod} {rv:List Rev} (h:Made n w) (hrv:rv = revsL n) (ns:List Int):∃ l,F11 (w,rv,ns,()) = some (l,()) ∧ LockInv 7 l:=by
 rw [F11_eq]
 obtain ⟨l,h1,h2⟩:=loop_upto (B:=B11_1) (min ns.length 7) (fun i (l:List Lock) => (ns,(i:Int),w,rv,l,())) (fun l => (l,())) (fun i l => LockInv i l) (by
   intro i hi l hl
   exact B11_1_is h hrv ns i (by omega) (by omega) l hl) (by
   intro l hl
   rw [B11_1_eq]
   by_cases h7:ns.length ≤ 7
   ·rw [Nat.min_eq_left h7,lt_out]; rfl
   ·rw [Nat.min_eq_right (by omega),lt_in (show 7 < ns.length by omega)]
    rfl) 0 [] (by omega) ⟨Nat.le_refl _,fun x hx => by simp at hx,.nil⟩
 have h1':loop B11_1 (ns,Int.ofNat 0,w,rv,[],()) = some (l,()):=h1
 rw [h1',Option.bind_some]
 exact ⟨l,rfl,by have:=h2.len; omega,h2.good,h2.apart⟩
theorem relW_len {w:List Mod} {rv:List Rev} {md:ByteArray} {l:List Lock} {R:List Want × List Trb} (h:RelW (runP w rv md l) R) (hl:l.length ≤ 900):R.1.length ≤ 900 ∧ R.2.length ≤ 900:=by
 have hb:=fold_len (w:=w) (rv:=rv) (md:=md) l ([],[])
 simp only [List.length_nil] at hb
 have h1:=h.perm.length_eq
 have h2:=congrArg List.length h.trb
 unfold runP at h1 h2
 omega
end Go.Vx.Z
