import Derived.Test.YtildhhdbikpbaaaGreatDoorV2
import Derived.Test.YtildhhdbikpbaaaGreatDoorProg
import Derived.KernelRfl
import Derived.IntWalk
set_option linter.unusedSimpArgs false
namespace Go.Vx.Z
noncomputable section
open Go Go.Vx Go.Proofs
set_option linter.unusedVariables false
set_option maxRecDepth 1000000
set_option maxHeartbeats 4000000
abbrev r0 : Ty := .cons .str <| .cons (.int .i64) <| .cons (.int .i64) <| .cons (.int .i64) <| .cons .str <| .unit
abbrev r1 : Ty := .cons (.int .i64) <| .cons (.int .i64) <| .cons (.int .i64) <| .cons .str <| .cons (.list r0) <| .cons .str <| .cons .str <| .unit
abbrev r2 : Ty := .cons .str <| .cons (.list r1) <| .unit
abbrev r3 : Ty := .cons .str <| .cons .str <| .cons .bool <| .cons .bool <| .cons (.int .i64) <| .cons (.int .i64) <| .cons (.int .i64) <| .cons .str <| .cons (.int .i64) <| .unit
abbrev r4 : Ty := .cons .str <| .cons .str <| .cons (.int .i64) <| .cons (.int .i64) <| .cons (.int .i64) <| .cons .str <| .unit
abbrev r5 : Ty := .cons (.int .i64) <| .cons (.int .i64) <| .cons (.int .i64) <| .cons .str <| .unit
abbrev R5 := Int × Int × Int × ByteArray × Unit
abbrev r7 : Ty := .cons (.int .i64) <| .cons (.int .i64) <| .cons (.int .i64) <| .cons .str <| .cons (.int .i64) <| .cons (.int .i64) <| .cons (.int .i64) <| .cons .str <| .cons .bool <| .cons .bool <| .cons .bool <| .unit
abbrev R7 := Int × Int × Int × ByteArray × Int × Int × Int × ByteArray × Bool × Bool × Bool × Unit
abbrev r8 : Ty := .cons (.int .i64) <| .cons (.int .i64) <| .cons (.int .i64) <| .cons .str <| .cons .bool <| .cons .bool <| .cons (.int .i64) <| .cons (.int .i64) <| .cons (.int .i64) <| .cons .str <| .cons .bool <| .cons .bool <| .unit
abbrev R8 := Int × Int × Int × ByteArray × Bool × Bool × Int × Int × Int × ByteArray × Bool × Bool × Unit
def e174 : FE := ⟨174, shByte, outInt, FIndexByte⟩
theorem ok174 : FEOK Tryz.prog e174 := ok_indexByte (fn := Tryz.f174) (by kernel_rfl) (by kernel_rfl) (by kernel_rfl) (by kernel_rfl) (by kernel_rfl)
def e178 : FE := ⟨178, shByte, outInt, FCount⟩
theorem ok178 : FEOK Tryz.prog e178 := ok_count (fn := Tryz.f178) (by kernel_rfl) (by kernel_rfl) (by kernel_rfl) (by kernel_rfl) (by kernel_rfl)
abbrev sh39 : Shape := ⟨[(0, .one (.d (.list r7)))], []⟩
abbrev out39 : Shape := ⟨[(0, .one (.own 200000))], [(200000, .lst 68 r8 false)]⟩
def b39 : Code := Tryz.f39.body.getD .skip
abbrev sh39_0 : Shape := ⟨[(3, .one (.own 200000)), (7, .one (.d (.list r7))), (8, .one (.d (.int .i64))), (9, .one (.d (.int .i64)))], [(200000, .lst 68 r8 false)]⟩
abbrev os39_0 : List (XE × Shape) := [(.ex 0, ⟨[(3, .one (.own 200000))], [(200000, .lst 68 r8 false)]⟩)]
def cx39_0 : Cx := ⟨Tryz.prog, [], [0, 1, 2, 3, 4, 5, 6, 7, 8, 9, 10, 11, 12, 13, 14, 15, 16, 17, 18, 19, 20, 21, 22, 23, 24, 25, 26, 27, 28, 29, 30, 31, 32], 33, [], []⟩
def B39_0 : List R7 × Int × Int × List R8 × Unit → Option ((List R7 × Int × Int × List R8 × Unit) ⊕ List R8 × Unit) := round cx39_0 (sub [1, 1, 0, 1, 0, 0] b39) sh39_0 os39_0
def ce39_0 : CE := ⟨sh39_0, os39_0, loop B39_0⟩
theorem okc39_0 : CEOK Tryz.prog 33 (.at (.loop (sub [1, 1, 0, 1, 0, 0] b39))) ce39_0 := round_ok (cx := cx39_0) (fun R => step_sound (all_fe (P := Tryz.prog) (l := []) trivial) R) (needs_of (l := []) (by kernel_rfl) trivial) sh39_0 os39_0
def cx39 : Cx := ⟨Tryz.prog, [], [0, 1, 2, 3, 4, 5, 6, 7, 8, 9, 10, 11, 12, 13, 14, 15, 16, 17, 18, 19, 20, 21, 22, 23, 24, 25, 26, 27, 28, 29, 30, 31, 32], 33, [(6, ce39_0)], []⟩
def F39 : List R7 × Unit → Option (List R8 × Unit) := func cx39 Tryz.f39 b39 sh39 out39
def e39 : FE := ⟨39, sh39, out39, F39⟩
theorem ok39 : FEOK Tryz.prog e39 := func_ok (cx := cx39) (fn := Tryz.f39) (c := b39) (all_fe (P := Tryz.prog) (l := []) trivial) (by kernel_rfl) (by kernel_rfl) (by kernel_rfl) (by kernel_rfl) (by kernel_rfl) (needs_of (l := [((.at (.loop (sub [1, 1, 0, 1, 0, 0] b39))), ce39_0)]) (by kernel_rfl) ⟨okc39_0, trivial⟩)
abbrev sh65 : Shape := ⟨[(0, .one (.d .bool))], []⟩
abbrev out65 : Shape := ⟨[(0, .one (.d (.int .i64)))], []⟩
def b65 : Code := Tryz.f65.body.getD .skip
def cx65 : Cx := ⟨Tryz.prog, [], [], 4, [], []⟩
def F65 : Bool × Unit → Option (Int × Unit) := func cx65 Tryz.f65 b65 sh65 out65
def e65 : FE := ⟨65, sh65, out65, F65⟩
theorem ok65 : FEOK Tryz.prog e65 := func_ok (cx := cx65) (fn := Tryz.f65) (c := b65) (all_fe (P := Tryz.prog) (l := []) trivial) (by kernel_rfl) (by kernel_rfl) (by kernel_rfl) (by kernel_rfl) (by kernel_rfl) (needs_of (l := []) (by kernel_rfl) trivial)
abbrev sh66 : Shape := ⟨[(0, .one (.d (.list (.int .i64))))], []⟩
abbrev out66 : Shape := ⟨[(0, .one (.d (.int .i64)))], []⟩
def b66 : Code := Tryz.f66.body.getD .skip
abbrev sh66_0 : Shape := ⟨[(3, .one (.d (.int .i64))), (6, .one (.d (.list (.int .i64)))), (7, .one (.d (.int .i64))), (8, .one (.d (.int .i64)))], []⟩
abbrev os66_0 : List (XE × Shape) := [(.ret, ⟨[(2, .one (.d (.int .i64)))], []⟩), (.ex 0, ⟨[(3, .one (.d (.int .i64)))], []⟩)]
def cx66_0 : Cx := ⟨Tryz.prog, [], [], 18, [], []⟩
def B66_0 : Int × List Int × Int × Int × Unit → Option ((Int × List Int × Int × Int × Unit) ⊕ (Int × Unit) ⊕ (Int × Unit)) := round cx66_0 (sub [1, 1, 0, 1, 0, 0] b66) sh66_0 os66_0
def ce66_0 : CE := ⟨sh66_0, os66_0, loop B66_0⟩
theorem okc66_0 : CEOK Tryz.prog 18 (.at (.loop (sub [1, 1, 0, 1, 0, 0] b66))) ce66_0 := round_ok (cx := cx66_0) (fun R => step_sound (all_fe (P := Tryz.prog) (l := []) trivial) R) (needs_of (l := []) (by kernel_rfl) trivial) sh66_0 os66_0
def cx66 : Cx := ⟨Tryz.prog, [], [], 18, [(6, ce66_0)], []⟩
def F66 : List Int × Unit → Option (Int × Unit) := func cx66 Tryz.f66 b66 sh66 out66
def e66 : FE := ⟨66, sh66, out66, F66⟩
theorem ok66 : FEOK Tryz.prog e66 := func_ok (cx := cx66) (fn := Tryz.f66) (c := b66) (all_fe (P := Tryz.prog) (l := []) trivial) (by kernel_rfl) (by kernel_rfl) (by kernel_rfl) (by kernel_rfl) (by kernel_rfl) (needs_of (l := [((.at (.loop (sub [1, 1, 0, 1, 0, 0] b66))), ce66_0)]) (by kernel_rfl) ⟨okc66_0, trivial⟩)
abbrev sh113 : Shape := ⟨[(0, .one (.d (.int .i64)))], []⟩
abbrev out113 : Shape := ⟨[(0, .one (.d .bool))], []⟩
def b113 : Code := Tryz.f113.body.getD .skip
def cx113 : Cx := ⟨Tryz.prog, [], [], 6, [], []⟩
def F113 : Int × Unit → Option (Bool × Unit) := func cx113 Tryz.f113 b113 sh113 out113
def e113 : FE := ⟨113, sh113, out113, F113⟩
theorem ok113 : FEOK Tryz.prog e113 := func_ok (cx := cx113) (fn := Tryz.f113) (c := b113) (all_fe (P := Tryz.prog) (l := []) trivial) (by kernel_rfl) (by kernel_rfl) (by kernel_rfl) (by kernel_rfl) (by kernel_rfl) (needs_of (l := []) (by kernel_rfl) trivial)
abbrev sh92 : Shape := ⟨[(0, .one (.d (.int .i64))), (1, .one (.d (.int .i64)))], []⟩
abbrev out92 : Shape := ⟨[(0, .one (.d (.int .i64)))], []⟩
def b92 : Code := Tryz.f92.body.getD .skip
def cx92 : Cx := ⟨Tryz.prog, [e113], [], 20, [], []⟩
def F92 : Int × Int × Unit → Option (Int × Unit) := func cx92 Tryz.f92 b92 sh92 out92
def e92 : FE := ⟨92, sh92, out92, F92⟩
theorem ok92 : FEOK Tryz.prog e92 := func_ok (cx := cx92) (fn := Tryz.f92) (c := b92) (all_fe (P := Tryz.prog) (l := [e113]) ⟨ok113, trivial⟩) (by kernel_rfl) (by kernel_rfl) (by kernel_rfl) (by kernel_rfl) (by kernel_rfl) (needs_of (l := []) (by kernel_rfl) trivial)
abbrev sh161 : Shape := ⟨[(0, .one (.d .str)), (1, .one (.d (.int .u8)))], []⟩
abbrev out161 : Shape := ⟨[(0, .one (.d (.int .i64)))], []⟩
def b161 : Code := Tryz.f161.body.getD .skip
def cx161 : Cx := ⟨Tryz.prog, [e174], [], 8, [], []⟩
def F161 : ByteArray × Int × Unit → Option (Int × Unit) := func cx161 Tryz.f161 b161 sh161 out161
def e161 : FE := ⟨161, sh161, out161, F161⟩
theorem ok161 : FEOK Tryz.prog e161 := func_ok (cx := cx161) (fn := Tryz.f161) (c := b161) (all_fe (P := Tryz.prog) (l := [e174]) ⟨ok174, trivial⟩) (by kernel_rfl) (by kernel_rfl) (by kernel_rfl) (by kernel_rfl) (by kernel_rfl) (needs_of (l := []) (by kernel_rfl) trivial)
abbrev sh162 : Shape := ⟨[(0, .one (.d .str)), (1, .one (.d .str))], []⟩
abbrev out162 : Shape := ⟨[(0, .one (.d (.int .i64)))], []⟩
def b162 : Code := Tryz.f162.body.getD .skip
def cx162 : Cx := ⟨Tryz.prog, [e161], [], 143, [], []⟩
def F162 : ByteArray × ByteArray × Unit → Option (Int × Unit) := func cx162 Tryz.f162 b162 sh162 out162
def e162 : FE := ⟨162, sh162, out162, F162⟩
theorem ok162 : FEOK Tryz.prog e162 := func_ok (cx := cx162) (fn := Tryz.f162) (c := b162) (all_fe (P := Tryz.prog) (l := [e161]) ⟨ok161, trivial⟩) (by kernel_rfl) (by kernel_rfl) (by kernel_rfl) (by kernel_rfl) (by kernel_rfl) (needs_of (l := []) (by kernel_rfl) trivial)
abbrev sh165 : Shape := ⟨[(0, .one (.d .str)), (1, .one (.d .str))], []⟩
abbrev out165 : Shape := ⟨[(0, .one (.d (.int .i64)))], []⟩
def b165 : Code := Tryz.f165.body.getD .skip
def cx165 : Cx := ⟨Tryz.prog, [e162], [], 8, [], []⟩
def F165 : ByteArray × ByteArray × Unit → Option (Int × Unit) := func cx165 Tryz.f165 b165 sh165 out165
def e165 : FE := ⟨165, sh165, out165, F165⟩
theorem ok165 : FEOK Tryz.prog e165 := func_ok (cx := cx165) (fn := Tryz.f165) (c := b165) (all_fe (P := Tryz.prog) (l := [e162]) ⟨ok162, trivial⟩) (by kernel_rfl) (by kernel_rfl) (by kernel_rfl) (by kernel_rfl) (by kernel_rfl) (needs_of (l := []) (by kernel_rfl) trivial)
abbrev sh176 : Shape := ⟨[(0, .one (.d .str))], []⟩
abbrev out176 : Shape := ⟨[(0, .one (.d (.int .i64)))], []⟩
def b176 : Code := Tryz.f176.body.getD .skip
abbrev sh176_0 : Shape := ⟨[(2, .one (.d (.int .i64))), (4, .one (.ptr 200000 0))], [(200000, .it)]⟩
abbrev os176_0 : List (XE × Shape) := [(.ex 0, ⟨[(2, .one (.d (.int .i64)))], []⟩)]
def cx176_0 : Cx := ⟨Tryz.prog, [], [], 10, [], []⟩
def B176_0 : Int × ByteArray × Nat × Unit → Option ((Int × ByteArray × Nat × Unit) ⊕ Int × Unit) := round cx176_0 (sub [1, 0, 1, 0, 0] b176) sh176_0 os176_0
def ce176_0 : CE := ⟨sh176_0, os176_0, loop B176_0⟩
theorem okc176_0 : CEOK Tryz.prog 10 (.at (.loop (sub [1, 0, 1, 0, 0] b176))) ce176_0 := round_ok (cx := cx176_0) (fun R => step_sound (all_fe (P := Tryz.prog) (l := []) trivial) R) (needs_of (l := []) (by kernel_rfl) trivial) sh176_0 os176_0
def cx176 : Cx := ⟨Tryz.prog, [], [], 10, [(4, ce176_0)], []⟩
def F176 : ByteArray × Unit → Option (Int × Unit) := func cx176 Tryz.f176 b176 sh176 out176
def e176 : FE := ⟨176, sh176, out176, F176⟩
theorem ok176 : FEOK Tryz.prog e176 := func_ok (cx := cx176) (fn := Tryz.f176) (c := b176) (all_fe (P := Tryz.prog) (l := []) trivial) (by kernel_rfl) (by kernel_rfl) (by kernel_rfl) (by kernel_rfl) (by kernel_rfl) (needs_of (l := [((.at (.loop (sub [1, 0, 1, 0, 0] b176))), ce176_0)]) (by kernel_rfl) ⟨okc176_0, trivial⟩)
abbrev sh164 : Shape := ⟨[(0, .one (.d .str)), (1, .one (.d .str))], []⟩
abbrev out164 : Shape := ⟨[(0, .one (.d (.int .i64)))], []⟩
def b164 : Code := Tryz.f164.body.getD .skip
abbrev sh164_0 : Shape := ⟨[(0, .one (.d .str)), (1, .one (.d .str)), (5, .one (.d (.int .i64)))], []⟩
abbrev os164_0 : List (XE × Shape) := [(.ret, ⟨[(4, .one (.d (.int .i64)))], []⟩)]
def cx164_0 : Cx := ⟨Tryz.prog, [e165, e176, e178], [], 34, [], []⟩
def B164_0 : ByteArray × ByteArray × Int × Unit → Option ((ByteArray × ByteArray × Int × Unit) ⊕ Int × Unit) := round cx164_0 (sub [1, 1, 1, 1, 0, 0] b164) sh164_0 os164_0
def ce164_0 : CE := ⟨sh164_0, os164_0, loop B164_0⟩
theorem okc164_0 : CEOK Tryz.prog 34 (.at (.loop (sub [1, 1, 1, 1, 0, 0] b164))) ce164_0 := round_ok (cx := cx164_0) (fun R => step_sound (all_fe (P := Tryz.prog) (l := [e165, e176, e178]) ⟨ok165, ok176, ok178, trivial⟩) R) (needs_of (l := []) (by kernel_rfl) trivial) sh164_0 os164_0
def cx164 : Cx := ⟨Tryz.prog, [e165, e176, e178], [], 34, [(12, ce164_0)], []⟩
def F164 : ByteArray × ByteArray × Unit → Option (Int × Unit) := func cx164 Tryz.f164 b164 sh164 out164
def e164 : FE := ⟨164, sh164, out164, F164⟩
theorem ok164 : FEOK Tryz.prog e164 := func_ok (cx := cx164) (fn := Tryz.f164) (c := b164) (all_fe (P := Tryz.prog) (l := [e165, e176, e178]) ⟨ok165, ok176, ok178, trivial⟩) (by kernel_rfl) (by kernel_rfl) (by kernel_rfl) (by kernel_rfl) (by kernel_rfl) (needs_of (l := [((.at (.loop (sub [1, 1, 1, 1, 0, 0] b164))), ce164_0)]) (by kernel_rfl) ⟨okc164_0, trivial⟩)
abbrev sh139 : Shape := ⟨[(0, .one (.d .str)), (1, .one (.d .str)), (2, .one (.d (.int .i64))), (3, .one (.d (.int .i64)))], []⟩
abbrev out139 : Shape := ⟨[(0, .one (.d (.list .str)))], []⟩
def b139 : Code := Tryz.f139.body.getD .skip
abbrev sh139_0 : Shape := ⟨[(0, .one (.d .str)), (1, .one (.d .str)), (2, .one (.d (.int .i64))), (3, .one (.d (.int .i64))), (9, .one (.own 200000)), (10, .one (.d (.int .i64)))], [(200000, .lst 9 .str false)]⟩
abbrev os139_0 : List (XE × Shape) := [(.ex 0, ⟨[(0, .one (.d .str)), (9, .one (.own 200000)), (10, .one (.d (.int .i64)))], [(200000, .lst 9 .str false)]⟩)]
def cx139_0 : Cx := ⟨Tryz.prog, [e164, e165], [31], 66, [], []⟩
def B139_0 : ByteArray × ByteArray × Int × Int × Int × List ByteArray × Unit → Option ((ByteArray × ByteArray × Int × Int × Int × List ByteArray × Unit) ⊕ ByteArray × Int × List ByteArray × Unit) := round cx139_0 (sub [1, 1, 1, 1, 1, 1, 1, 1, 0, 0, 0] b139) sh139_0 os139_0
def ce139_0 : CE := ⟨sh139_0, os139_0, loop B139_0⟩
theorem okc139_0 : CEOK Tryz.prog 66 (.at (.loop (sub [1, 1, 1, 1, 1, 1, 1, 1, 0, 0, 0] b139))) ce139_0 := round_ok (cx := cx139_0) (fun R => step_sound (all_fe (P := Tryz.prog) (l := [e164, e165]) ⟨ok164, ok165, trivial⟩) R) (needs_of (l := []) (by kernel_rfl) trivial) sh139_0 os139_0
def cx139 : Cx := ⟨Tryz.prog, [e164, e165], [31], 66, [(22, ce139_0)], [200000]⟩
def F139 : ByteArray × ByteArray × Int × Int × Unit → Option (List ByteArray × Unit) := func cx139 Tryz.f139 b139 sh139 out139
def e139 : FE := ⟨139, sh139, out139, F139⟩
theorem ok139 : FEOK Tryz.prog e139 := func_ok (cx := cx139) (fn := Tryz.f139) (c := b139) (all_fe (P := Tryz.prog) (l := [e164, e165]) ⟨ok164, ok165, trivial⟩) (by kernel_rfl) (by kernel_rfl) (by kernel_rfl) (by kernel_rfl) (by kernel_rfl) (needs_of (l := [((.at (.loop (sub [1, 1, 1, 1, 1, 1, 1, 1, 0, 0, 0] b139))), ce139_0)]) (by kernel_rfl) ⟨okc139_0, trivial⟩)
abbrev sh102 : Shape := ⟨[(0, .one (.d .str)), (1, .one (.d .str))], []⟩
abbrev out102 : Shape := ⟨[(0, .one (.d (.list .str)))], []⟩
def b102 : Code := Tryz.f102.body.getD .skip
def cx102 : Cx := ⟨Tryz.prog, [e139], [], 8, [], []⟩
def F102 : ByteArray × ByteArray × Unit → Option (List ByteArray × Unit) := func cx102 Tryz.f102 b102 sh102 out102
def e102 : FE := ⟨102, sh102, out102, F102⟩
theorem ok102 : FEOK Tryz.prog e102 := func_ok (cx := cx102) (fn := Tryz.f102) (c := b102) (all_fe (P := Tryz.prog) (l := [e139]) ⟨ok139, trivial⟩) (by kernel_rfl) (by kernel_rfl) (by kernel_rfl) (by kernel_rfl) (by kernel_rfl) (needs_of (l := []) (by kernel_rfl) trivial)
abbrev sh149 : Shape := ⟨[(0, .one (.d .str))], []⟩
abbrev out149 : Shape := ⟨[(0, .one (.d .bool))], []⟩
def b149 : Code := Tryz.f149.body.getD .skip
abbrev sh149_0 : Shape := ⟨[(0, .one (.d .str)), (5, .one (.d (.int .i64))), (6, .one (.d (.int .i64)))], []⟩
abbrev os149_0 : List (XE × Shape) := [(.ret, ⟨[(2, .one (.d .bool))], []⟩), (.ex 0, ⟨[(0, .one (.d .str))], []⟩)]
def cx149_0 : Cx := ⟨Tryz.prog, [], [], 22, [], []⟩
def B149_0 : ByteArray × Int × Int × Unit → Option ((ByteArray × Int × Int × Unit) ⊕ (Bool × Unit) ⊕ (ByteArray × Unit)) := round cx149_0 (sub [1, 0, 1, 0, 0] b149) sh149_0 os149_0
def ce149_0 : CE := ⟨sh149_0, os149_0, loop B149_0⟩
theorem okc149_0 : CEOK Tryz.prog 22 (.at (.loop (sub [1, 0, 1, 0, 0] b149))) ce149_0 := round_ok (cx := cx149_0) (fun R => step_sound (all_fe (P := Tryz.prog) (l := []) trivial) R) (needs_of (l := []) (by kernel_rfl) trivial) sh149_0 os149_0
def cx149 : Cx := ⟨Tryz.prog, [], [], 22, [(4, ce149_0)], []⟩
def F149 : ByteArray × Unit → Option (Bool × Unit) := func cx149 Tryz.f149 b149 sh149 out149
def e149 : FE := ⟨149, sh149, out149, F149⟩
theorem ok149 : FEOK Tryz.prog e149 := func_ok (cx := cx149) (fn := Tryz.f149) (c := b149) (all_fe (P := Tryz.prog) (l := []) trivial) (by kernel_rfl) (by kernel_rfl) (by kernel_rfl) (by kernel_rfl) (by kernel_rfl) (needs_of (l := [((.at (.loop (sub [1, 0, 1, 0, 0] b149))), ce149_0)]) (by kernel_rfl) ⟨okc149_0, trivial⟩)
abbrev sh171 : Shape := ⟨[(0, .one (.d .str))], []⟩
abbrev out171 : Shape := ⟨[(0, .one (.d .bool))], []⟩
def b171 : Code := Tryz.f171.body.getD .skip
def cx171 : Cx := ⟨Tryz.prog, [], [], 6, [], []⟩
def F171 : ByteArray × Unit → Option (Bool × Unit) := func cx171 Tryz.f171 b171 sh171 out171
def e171 : FE := ⟨171, sh171, out171, F171⟩
theorem ok171 : FEOK Tryz.prog e171 := func_ok (cx := cx171) (fn := Tryz.f171) (c := b171) (all_fe (P := Tryz.prog) (l := []) trivial) (by kernel_rfl) (by kernel_rfl) (by kernel_rfl) (by kernel_rfl) (by kernel_rfl) (needs_of (l := []) (by kernel_rfl) trivial)
abbrev sh150 : Shape := ⟨[(0, .one (.d .str)), (1, .one (.d .str))], []⟩
abbrev out150 : Shape := ⟨[(0, .one (.d (.int .i64)))], []⟩
def b150 : Code := Tryz.f150.body.getD .skip
def cx150 : Cx := ⟨Tryz.prog, [e171], [], 20, [], []⟩
def F150 : ByteArray × ByteArray × Unit → Option (Int × Unit) := func cx150 Tryz.f150 b150 sh150 out150
def e150 : FE := ⟨150, sh150, out150, F150⟩
theorem ok150 : FEOK Tryz.prog e150 := func_ok (cx := cx150) (fn := Tryz.f150) (c := b150) (all_fe (P := Tryz.prog) (l := [e171]) ⟨ok171, trivial⟩) (by kernel_rfl) (by kernel_rfl) (by kernel_rfl) (by kernel_rfl) (by kernel_rfl) (needs_of (l := []) (by kernel_rfl) trivial)
abbrev sh115 : Shape := ⟨[(0, .one (.d .str)), (1, .one (.d .str))], []⟩
abbrev out115 : Shape := ⟨[(0, .one (.d (.int .i64)))], []⟩
def b115 : Code := Tryz.f115.body.getD .skip
def cx115 : Cx := ⟨Tryz.prog, [e66, e92, e149, e150], [], 33, [], []⟩
def F115 : ByteArray × ByteArray × Unit → Option (Int × Unit) := func cx115 Tryz.f115 b115 sh115 out115
def e115 : FE := ⟨115, sh115, out115, F115⟩
theorem ok115 : FEOK Tryz.prog e115 := func_ok (cx := cx115) (fn := Tryz.f115) (c := b115) (all_fe (P := Tryz.prog) (l := [e66, e92, e149, e150]) ⟨ok66, ok92, ok149, ok150, trivial⟩) (by kernel_rfl) (by kernel_rfl) (by kernel_rfl) (by kernel_rfl) (by kernel_rfl) (needs_of (l := []) (by kernel_rfl) trivial)
abbrev sh114 : Shape := ⟨[(0, .one (.d (.list .str))), (1, .one (.d (.list .str))), (2, .one (.fn 115))], []⟩
abbrev out114 : Shape := ⟨[(0, .one (.d (.int .i64)))], []⟩
def b114 : Code := Tryz.f114.body.getD .skip
abbrev sh114_0 : Shape := ⟨[(0, .one (.d (.list .str))), (1, .one (.d (.list .str))), (2, .one (.fn 115)), (11, .one (.d (.list .str))), (12, .one (.d (.int .i64))), (13, .one (.d (.int .i64)))], []⟩
abbrev os114_0 : List (XE × Shape) := [(.ret, ⟨[(6, .one (.d (.int .i64)))], []⟩), (.ex 0, ⟨[(0, .one (.d (.list .str))), (1, .one (.d (.list .str)))], []⟩)]
def cx114_0 : Cx := ⟨Tryz.prog, [e115], [], 39, [], []⟩
def B114_0 : List ByteArray × List ByteArray × List ByteArray × Int × Int × Unit → Option ((List ByteArray × List ByteArray × List ByteArray × Int × Int × Unit) ⊕ (Int × Unit) ⊕ (List ByteArray × List ByteArray × Unit)) := round cx114_0 (sub [1, 0, 1, 0, 0] b114) sh114_0 os114_0
def ce114_0 : CE := ⟨sh114_0, os114_0, loop B114_0⟩
theorem okc114_0 : CEOK Tryz.prog 39 (.at (.loop (sub [1, 0, 1, 0, 0] b114))) ce114_0 := round_ok (cx := cx114_0) (fun R => step_sound (all_fe (P := Tryz.prog) (l := [e115]) ⟨ok115, trivial⟩) R) (needs_of (l := []) (by kernel_rfl) trivial) sh114_0 os114_0
def cx114 : Cx := ⟨Tryz.prog, [e115], [], 39, [(4, ce114_0)], []⟩
def F114 : List ByteArray × List ByteArray × Unit → Option (Int × Unit) := func cx114 Tryz.f114 b114 sh114 out114
def e114 : FE := ⟨114, sh114, out114, F114⟩
theorem ok114 : FEOK Tryz.prog e114 := func_ok (cx := cx114) (fn := Tryz.f114) (c := b114) (all_fe (P := Tryz.prog) (l := [e115]) ⟨ok115, trivial⟩) (by kernel_rfl) (by kernel_rfl) (by kernel_rfl) (by kernel_rfl) (by kernel_rfl) (needs_of (l := [((.at (.loop (sub [1, 0, 1, 0, 0] b114))), ce114_0)]) (by kernel_rfl) ⟨okc114_0, trivial⟩)
abbrev sh93 : Shape := ⟨[(0, .one (.d .str)), (1, .one (.d .str))], []⟩
abbrev out93 : Shape := ⟨[(0, .one (.d (.int .i64)))], []⟩
def b93 : Code := Tryz.f93.body.getD .skip
def cx93 : Cx := ⟨Tryz.prog, [e102, e114], [], 20, [], []⟩
def F93 : ByteArray × ByteArray × Unit → Option (Int × Unit) := func cx93 Tryz.f93 b93 sh93 out93
def e93 : FE := ⟨93, sh93, out93, F93⟩
theorem ok93 : FEOK Tryz.prog e93 := func_ok (cx := cx93) (fn := Tryz.f93) (c := b93) (all_fe (P := Tryz.prog) (l := [e102, e114]) ⟨ok102, ok114, trivial⟩) (by kernel_rfl) (by kernel_rfl) (by kernel_rfl) (by kernel_rfl) (by kernel_rfl) (needs_of (l := []) (by kernel_rfl) trivial)
abbrev sh67 : Shape := ⟨[(0, .row [.d (.int .i64), .d (.int .i64), .d (.int .i64), .d .str]), (1, .row [.d (.int .i64), .d (.int .i64), .d (.int .i64), .d .str])], []⟩
abbrev out67 : Shape := ⟨[(0, .one (.d (.int .i64)))], []⟩
def b67 : Code := Tryz.f67.body.getD .skip
def cx67 : Cx := ⟨Tryz.prog, [e66, e92, e93], [], 27, [], []⟩
def F67 : Int × Int × Int × ByteArray × Int × Int × Int × ByteArray × Unit → Option (Int × Unit) := func cx67 Tryz.f67 b67 sh67 out67
def e67 : FE := ⟨67, sh67, out67, F67⟩
theorem ok67 : FEOK Tryz.prog e67 := func_ok (cx := cx67) (fn := Tryz.f67) (c := b67) (all_fe (P := Tryz.prog) (l := [e66, e92, e93]) ⟨ok66, ok92, ok93, trivial⟩) (by kernel_rfl) (by kernel_rfl) (by kernel_rfl) (by kernel_rfl) (by kernel_rfl) (needs_of (l := []) (by kernel_rfl) trivial)
abbrev sh40 : Shape := ⟨[(0, .row [.d (.int .i64), .d (.int .i64), .d (.int .i64), .d .str, .d .bool, .d .bool]), (1, .row [.d (.int .i64), .d (.int .i64), .d (.int .i64), .d .str, .d .bool, .d .bool])], []⟩
abbrev out40 : Shape := ⟨[(0, .one (.d (.int .i64)))], []⟩
def b40 : Code := Tryz.f40.body.getD .skip
def cx40 : Cx := ⟨Tryz.prog, [e65, e66, e67], [], 32, [], []⟩
def F40 : Int × Int × Int × ByteArray × Bool × Bool × Int × Int × Int × ByteArray × Bool × Bool × Unit → Option (Int × Unit) := func cx40 Tryz.f40 b40 sh40 out40
def e40 : FE := ⟨40, sh40, out40, F40⟩
theorem ok40 : FEOK Tryz.prog e40 := func_ok (cx := cx40) (fn := Tryz.f40) (c := b40) (all_fe (P := Tryz.prog) (l := [e65, e66, e67]) ⟨ok65, ok66, ok67, trivial⟩) (by kernel_rfl) (by kernel_rfl) (by kernel_rfl) (by kernel_rfl) (by kernel_rfl) (needs_of (l := []) (by kernel_rfl) trivial)
abbrev sh69 : Shape := ⟨[(0, .row [.d (.int .i64), .d (.int .i64), .d (.int .i64), .d .str, .d .bool, .d .bool, .d (.int .i64), .d (.int .i64), .d (.int .i64), .d .str, .d .bool, .d .bool])], []⟩
abbrev out69 : Shape := ⟨[(0, .one (.d .bool))], []⟩
def b69 : Code := Tryz.f69.body.getD .skip
def cx69 : Cx := ⟨Tryz.prog, [e40], [], 9, [], []⟩
def F69 : Int × Int × Int × ByteArray × Bool × Bool × Int × Int × Int × ByteArray × Bool × Bool × Unit → Option (Bool × Unit) := func cx69 Tryz.f69 b69 sh69 out69
def e69 : FE := ⟨69, sh69, out69, F69⟩
theorem ok69 : FEOK Tryz.prog e69 := func_ok (cx := cx69) (fn := Tryz.f69) (c := b69) (all_fe (P := Tryz.prog) (l := [e40]) ⟨ok40, trivial⟩) (by kernel_rfl) (by kernel_rfl) (by kernel_rfl) (by kernel_rfl) (by kernel_rfl) (needs_of (l := []) (by kernel_rfl) trivial)
abbrev sh74 : Shape := ⟨[(0, .one (.own 100000)), (1, .one (.fn 69))], [(100000, .lst 68 r8 false)]⟩
abbrev out74 : Shape := ⟨[(0, .one (.d (.int .i64)))], [(100000, .lst 68 r8 false)]⟩
def b74 : Code := Tryz.f74.body.getD .skip
abbrev sh74_0 : Shape := ⟨[(0, .one (.own 100000)), (1, .one (.fn 69)), (7, .one (.d (.int .i64))), (8, .one (.d (.int .i64)))], [(100000, .lst 68 r8 false)]⟩
abbrev os74_0 : List (XE × Shape) := [(.ret, ⟨[(4, .one (.d (.int .i64)))], [(100000, .lst 68 r8 false)]⟩), (.ex 0, ⟨[], [(100000, .lst 68 r8 false)]⟩)]
def cx74_0 : Cx := ⟨Tryz.prog, [e69], [], 19, [], []⟩
def B74_0 : Int × Int × List R8 × Unit → Option ((Int × Int × List R8 × Unit) ⊕ (Int × List R8 × Unit) ⊕ (List R8 × Unit)) := round cx74_0 (sub [1, 0, 1, 0, 0] b74) sh74_0 os74_0
def ce74_0 : CE := ⟨sh74_0, os74_0, loop B74_0⟩
theorem okc74_0 : CEOK Tryz.prog 19 (.at (.loop (sub [1, 0, 1, 0, 0] b74))) ce74_0 := round_ok (cx := cx74_0) (fun R => step_sound (all_fe (P := Tryz.prog) (l := [e69]) ⟨ok69, trivial⟩) R) (needs_of (l := []) (by kernel_rfl) trivial) sh74_0 os74_0
def cx74 : Cx := ⟨Tryz.prog, [e69], [], 19, [(4, ce74_0)], []⟩
def F74 : List R8 × Unit → Option (Int × List R8 × Unit) := func cx74 Tryz.f74 b74 sh74 out74
def e74 : FE := ⟨74, sh74, out74, F74⟩
theorem ok74 : FEOK Tryz.prog e74 := func_ok (cx := cx74) (fn := Tryz.f74) (c := b74) (all_fe (P := Tryz.prog) (l := [e69]) ⟨ok69, trivial⟩) (by kernel_rfl) (by kernel_rfl) (by kernel_rfl) (by kernel_rfl) (by kernel_rfl) (needs_of (l := [((.at (.loop (sub [1, 0, 1, 0, 0] b74))), ce74_0)]) (by kernel_rfl) ⟨okc74_0, trivial⟩)
abbrev sh68 : Shape := ⟨[(0, .one (.own 100000)), (1, .one (.fn 69))], [(100000, .lst 68 r8 false)]⟩
abbrev out68 : Shape := ⟨[(0, .one (.os 100000 12))], [(100000, .lst 68 r8 false)]⟩
def b68 : Code := Tryz.f68.body.getD .skip
abbrev sh68_0 : Shape := ⟨[(0, .one (.own 100000)), (1, .one (.fn 69)), (5, .one (.d (.int .i64))), (6, .one (.d (.int .i64)))], [(100000, .lst 68 r8 false)]⟩
abbrev os68_0 : List (XE × Shape) := [(.ex 0, ⟨[(0, .one (.own 100000)), (5, .one (.d (.int .i64)))], [(100000, .lst 68 r8 false)]⟩)]
def cx68_0 : Cx := ⟨Tryz.prog, [e69, e74], [0, 1, 2, 3, 4, 5, 6, 7, 8, 9, 10, 11, 12, 13, 14, 15, 16, 17, 18, 19, 20, 21, 22, 23, 24, 25, 26, 27, 28, 29, 30, 31, 32, 33, 34, 35, 36, 37, 38, 39, 40, 41], 42, [], []⟩
def B68_0 : Int × Int × List R8 × Unit → Option ((Int × Int × List R8 × Unit) ⊕ Int × List R8 × Unit) := round cx68_0 (sub [1, 1, 1, 0, 1, 0, 0] b68) sh68_0 os68_0
def ce68_0 : CE := ⟨sh68_0, os68_0, loop B68_0⟩
theorem okc68_0 : CEOK Tryz.prog 42 (.at (.loop (sub [1, 1, 1, 0, 1, 0, 0] b68))) ce68_0 := round_ok (cx := cx68_0) (fun R => step_sound (all_fe (P := Tryz.prog) (l := [e69, e74]) ⟨ok69, ok74, trivial⟩) R) (needs_of (l := []) (by kernel_rfl) trivial) sh68_0 os68_0
def cx68 : Cx := ⟨Tryz.prog, [e69, e74], [0, 1, 2, 3, 4, 5, 6, 7, 8, 9, 10, 11, 12, 13, 14, 15, 16, 17, 18, 19, 20, 21, 22, 23, 24, 25, 26, 27, 28, 29, 30, 31, 32, 33, 34, 35, 36, 37, 38, 39, 40, 41], 42, [(10, ce68_0)], []⟩
def F68 : List R8 × Unit → Option (Nat × Nat × List R8 × Unit) := func cx68 Tryz.f68 b68 sh68 out68
def e68 : FE := ⟨68, sh68, out68, F68⟩
theorem ok68 : FEOK Tryz.prog e68 := func_ok (cx := cx68) (fn := Tryz.f68) (c := b68) (all_fe (P := Tryz.prog) (l := [e69, e74]) ⟨ok69, ok74, trivial⟩) (by kernel_rfl) (by kernel_rfl) (by kernel_rfl) (by kernel_rfl) (by kernel_rfl) (needs_of (l := [((.at (.loop (sub [1, 1, 1, 0, 1, 0, 0] b68))), ce68_0)]) (by kernel_rfl) ⟨okc68_0, trivial⟩)
abbrev sh71 : Shape := ⟨[(0, .row [.d (.int .i64), .d (.int .i64), .d (.int .i64), .d .str, .d .bool, .d .bool, .d (.int .i64), .d (.int .i64), .d (.int .i64), .d .str, .d .bool, .d .bool]), (1, .row [.d (.int .i64), .d (.int .i64), .d (.int .i64), .d .str, .d .bool, .d .bool, .d (.int .i64), .d (.int .i64), .d (.int .i64), .d .str, .d .bool, .d .bool])], []⟩
abbrev out71 : Shape := ⟨[(0, .one (.d (.int .i64)))], []⟩
def b71 : Code := Tryz.f71.body.getD .skip
def cx71 : Cx := ⟨Tryz.prog, [e40], [], 10, [], []⟩
def F71 : Int × Int × Int × ByteArray × Bool × Bool × Int × Int × Int × ByteArray × Bool × Bool × Int × Int × Int × ByteArray × Bool × Bool × Int × Int × Int × ByteArray × Bool × Bool × Unit → Option (Int × Unit) := func cx71 Tryz.f71 b71 sh71 out71
def e71 : FE := ⟨71, sh71, out71, F71⟩
theorem ok71 : FEOK Tryz.prog e71 := func_ok (cx := cx71) (fn := Tryz.f71) (c := b71) (all_fe (P := Tryz.prog) (l := [e40]) ⟨ok40, trivial⟩) (by kernel_rfl) (by kernel_rfl) (by kernel_rfl) (by kernel_rfl) (by kernel_rfl) (needs_of (l := []) (by kernel_rfl) trivial)
abbrev sh72 : Shape := ⟨[(0, .one (.d (.list r7)))], []⟩
abbrev out72 : Shape := ⟨[(0, .one (.d (.list r7)))], []⟩
def b72 : Code := Tryz.f72.body.getD .skip
def cx72 : Cx := ⟨Tryz.prog, [], [], 9, [], []⟩
def F72 : List R7 × Unit → Option (List R7 × Unit) := func cx72 Tryz.f72 b72 sh72 out72
def e72 : FE := ⟨72, sh72, out72, F72⟩
theorem ok72 : FEOK Tryz.prog e72 := func_ok (cx := cx72) (fn := Tryz.f72) (c := b72) (all_fe (P := Tryz.prog) (l := []) trivial) (by kernel_rfl) (by kernel_rfl) (by kernel_rfl) (by kernel_rfl) (by kernel_rfl) (needs_of (l := []) (by kernel_rfl) trivial)
abbrev sh39v1 : Shape := ⟨[(0, .one (.own 100000))], [(100000, .lst 57 r7 false)]⟩
abbrev out39v1 : Shape := ⟨[(0, .one (.own 200000))], [(100000, .lst 57 r7 false), (200000, .lst 68 r8 false)]⟩
def b39v1 : Code := Tryz.f39.body.getD .skip
abbrev sh39v1_0 : Shape := ⟨[(3, .one (.own 200000)), (7, .one (.own 100000)), (8, .one (.d (.int .i64))), (9, .one (.d (.int .i64)))], [(100000, .lst 57 r7 false), (200000, .lst 68 r8 false)]⟩
abbrev os39v1_0 : List (XE × Shape) := [(.ex 0, ⟨[(3, .one (.own 200000))], [(100000, .lst 57 r7 false), (200000, .lst 68 r8 false)]⟩)]
def cx39v1_0 : Cx := ⟨Tryz.prog, [], [0, 1, 2, 3, 4, 5, 6, 7, 8, 9, 10, 11, 12, 13, 14, 15, 16, 17, 18, 19, 20, 21, 22, 23, 24, 25, 26, 27, 28, 29, 30, 31, 32], 33, [], []⟩
def B39v1_0 : Int × Int × List R7 × List R8 × Unit → Option ((Int × Int × List R7 × List R8 × Unit) ⊕ List R7 × List R8 × Unit) := round cx39v1_0 (sub [1, 1, 0, 1, 0, 0] b39v1) sh39v1_0 os39v1_0
def ce39v1_0 : CE := ⟨sh39v1_0, os39v1_0, loop B39v1_0⟩
theorem okc39v1_0 : CEOK Tryz.prog 33 (.at (.loop (sub [1, 1, 0, 1, 0, 0] b39v1))) ce39v1_0 := round_ok (cx := cx39v1_0) (fun R => step_sound (all_fe (P := Tryz.prog) (l := []) trivial) R) (needs_of (l := []) (by kernel_rfl) trivial) sh39v1_0 os39v1_0
def cx39v1 : Cx := ⟨Tryz.prog, [], [0, 1, 2, 3, 4, 5, 6, 7, 8, 9, 10, 11, 12, 13, 14, 15, 16, 17, 18, 19, 20, 21, 22, 23, 24, 25, 26, 27, 28, 29, 30, 31, 32], 33, [(6, ce39v1_0)], []⟩
def F39v1 : List R7 × Unit → Option (List R7 × List R8 × Unit) := func cx39v1 Tryz.f39 b39v1 sh39v1 out39v1
def e39v1 : FE := ⟨39, sh39v1, out39v1, F39v1⟩
theorem ok39v1 : FEOK Tryz.prog e39v1 := func_ok (cx := cx39v1) (fn := Tryz.f39) (c := b39v1) (all_fe (P := Tryz.prog) (l := []) trivial) (by kernel_rfl) (by kernel_rfl) (by kernel_rfl) (by kernel_rfl) (by kernel_rfl) (needs_of (l := [((.at (.loop (sub [1, 1, 0, 1, 0, 0] b39v1))), ce39v1_0)]) (by kernel_rfl) ⟨okc39v1_0, trivial⟩)
abbrev sh73 : Shape := ⟨[(0, .one (.nilS)), (1, .one (.d (.int .i64)))], []⟩
abbrev out73 : Shape := ⟨[(0, .one (.own 200000))], [(200000, .lst 57 r7 false)]⟩
def b73 : Code := Tryz.f73.body.getD .skip
def cx73 : Cx := ⟨Tryz.prog, [], [22, 100020, 100025], 27, [], []⟩
def F73 : Int × Unit → Option (List R7 × Unit) := func cx73 Tryz.f73 b73 sh73 out73
def e73 : FE := ⟨73, sh73, out73, F73⟩
theorem ok73 : FEOK Tryz.prog e73 := func_ok (cx := cx73) (fn := Tryz.f73) (c := b73) (all_fe (P := Tryz.prog) (l := []) trivial) (by kernel_rfl) (by kernel_rfl) (by kernel_rfl) (by kernel_rfl) (by kernel_rfl) (needs_of (l := []) (by kernel_rfl) trivial)
abbrev sh42 : Shape := ⟨[(0, .one (.d (.list (.list r7))))], []⟩
abbrev out42 : Shape := ⟨[(0, .one (.own 200000))], [(200000, .lst 57 r7 false)]⟩
def b42 : Code := Tryz.f42.body.getD .skip
abbrev sh42_0 : Shape := ⟨[(0, .one (.d (.list (.list r7)))), (3, .one (.d (.int .i64))), (9, .one (.d (.list (.list r7)))), (10, .one (.d (.int .i64))), (11, .one (.d (.int .i64)))], []⟩
abbrev os42_0 : List (XE × Shape) := [(.ex 0, ⟨[(0, .one (.d (.list (.list r7)))), (3, .one (.d (.int .i64)))], []⟩)]
def cx42_0 : Cx := ⟨Tryz.prog, [e73], [0, 1, 2, 3, 4, 5, 6, 7, 8, 9, 10, 11, 12, 13, 14, 15, 16, 17, 18, 19, 20, 21, 22, 23, 24, 25, 26, 27, 28, 29, 30, 31, 32, 33, 34, 35], 36, [], []⟩
def B42_0 : List (List R7) × Int × List (List R7) × Int × Int × Unit → Option ((List (List R7) × Int × List (List R7) × Int × Int × Unit) ⊕ List (List R7) × Int × Unit) := round cx42_0 (sub [1, 1, 0, 1, 0, 0] b42) sh42_0 os42_0
def ce42_0 : CE := ⟨sh42_0, os42_0, loop B42_0⟩
theorem okc42_0 : CEOK Tryz.prog 36 (.at (.loop (sub [1, 1, 0, 1, 0, 0] b42))) ce42_0 := round_ok (cx := cx42_0) (fun R => step_sound (all_fe (P := Tryz.prog) (l := [e73]) ⟨ok73, trivial⟩) R) (needs_of (l := []) (by kernel_rfl) trivial) sh42_0 os42_0
abbrev sh42_1 : Shape := ⟨[(6, .one (.own 200000)), (25, .one (.d (.list (.list r7)))), (26, .one (.d (.int .i64))), (27, .one (.d (.int .i64)))], [(200000, .lst 57 r7 false)]⟩
abbrev os42_1 : List (XE × Shape) := [(.ex 2, ⟨[(6, .one (.own 200000))], [(200000, .lst 57 r7 false)]⟩)]
def cx42_1 : Cx := ⟨Tryz.prog, [e73], [0, 1, 2, 3, 4, 5, 6, 7, 8, 9, 10, 11, 12, 13, 14, 15, 16, 17, 18, 19, 20, 21, 22, 23, 24, 25, 26, 27, 28, 29, 30, 31, 32, 33, 34, 35], 36, [(6, ce42_0)], []⟩
def B42_1 : List (List R7) × Int × Int × List R7 × Unit → Option ((List (List R7) × Int × Int × List R7 × Unit) ⊕ List R7 × Unit) := round cx42_1 (sub [1, 1, 1, 1, 0, 1, 0, 0] b42) sh42_1 os42_1
def ce42_1 : CE := ⟨sh42_1, os42_1, loop B42_1⟩
theorem okc42_1 : CEOK Tryz.prog 36 (.at (.loop (sub [1, 1, 1, 1, 0, 1, 0, 0] b42))) ce42_1 := round_ok (cx := cx42_1) (fun R => step_sound (all_fe (P := Tryz.prog) (l := [e73]) ⟨ok73, trivial⟩) R) (needs_of (l := []) (by kernel_rfl) trivial) sh42_1 os42_1
def cx42 : Cx := ⟨Tryz.prog, [e73], [0, 1, 2, 3, 4, 5, 6, 7, 8, 9, 10, 11, 12, 13, 14, 15, 16, 17, 18, 19, 20, 21, 22, 23, 24, 25, 26, 27, 28, 29, 30, 31, 32, 33, 34, 35], 36, [(6, ce42_0), (22, ce42_1)], []⟩
def F42 : List (List R7) × Unit → Option (List R7 × Unit) := func cx42 Tryz.f42 b42 sh42 out42
def e42 : FE := ⟨42, sh42, out42, F42⟩
theorem ok42 : FEOK Tryz.prog e42 := func_ok (cx := cx42) (fn := Tryz.f42) (c := b42) (all_fe (P := Tryz.prog) (l := [e73]) ⟨ok73, trivial⟩) (by kernel_rfl) (by kernel_rfl) (by kernel_rfl) (by kernel_rfl) (by kernel_rfl) (needs_of (l := [((.at (.loop (sub [1, 1, 0, 1, 0, 0] b42))), ce42_0), ((.at (.loop (sub [1, 1, 1, 1, 0, 1, 0, 0] b42))), ce42_1)]) (by kernel_rfl) ⟨okc42_0, okc42_1, trivial⟩)
abbrev sh43 : Shape := ⟨[], []⟩
abbrev out43 : Shape := ⟨[(0, .row [.d (.int .i64), .d (.int .i64), .d (.int .i64), .d .str])], []⟩
def b43 : Code := Tryz.f43.body.getD .skip
def cx43 : Cx := ⟨Tryz.prog, [], [], 2, [], []⟩
def F43 : Unit → Option (Int × Int × Int × ByteArray × Unit) := func cx43 Tryz.f43 b43 sh43 out43
def e43 : FE := ⟨43, sh43, out43, F43⟩
theorem ok43 : FEOK Tryz.prog e43 := func_ok (cx := cx43) (fn := Tryz.f43) (c := b43) (all_fe (P := Tryz.prog) (l := []) trivial) (by kernel_rfl) (by kernel_rfl) (by kernel_rfl) (by kernel_rfl) (by kernel_rfl) (needs_of (l := []) (by kernel_rfl) trivial)
abbrev sh45 : Shape := ⟨[(0, .row [.d (.int .i64), .d (.int .i64), .d (.int .i64), .d .str, .d .bool, .d .bool, .d (.int .i64), .d (.int .i64), .d (.int .i64), .d .str, .d .bool, .d .bool]), (1, .one (.ptr 100000 0))], [(100000, .box 34 [.d (.int .i64), .d (.int .i64), .d (.int .i64), .d .str])]⟩
abbrev out45 : Shape := ⟨[(0, .one (.d .bool))], [(100000, .box 34 [.d (.int .i64), .d (.int .i64), .d (.int .i64), .d .str])]⟩
def b45 : Code := Tryz.f45.body.getD .skip
def cx45 : Cx := ⟨Tryz.prog, [e40], [], 18, [], []⟩
def F45 : Int × Int × Int × ByteArray × Bool × Bool × Int × Int × Int × ByteArray × Bool × Bool × Int × Int × Int × ByteArray × Unit → Option (Bool × Int × Int × Int × ByteArray × Unit) := func cx45 Tryz.f45 b45 sh45 out45
def e45 : FE := ⟨45, sh45, out45, F45⟩
theorem ok45 : FEOK Tryz.prog e45 := func_ok (cx := cx45) (fn := Tryz.f45) (c := b45) (all_fe (P := Tryz.prog) (l := [e40]) ⟨ok40, trivial⟩) (by kernel_rfl) (by kernel_rfl) (by kernel_rfl) (by kernel_rfl) (by kernel_rfl) (needs_of (l := []) (by kernel_rfl) trivial)
abbrev sh74v1 : Shape := ⟨[(0, .one (.own 100000)), (1, .one (.clo 45 [some (100001, 0)]))], [(100000, .lst 68 r8 false), (100001, .box 34 [.d (.int .i64), .d (.int .i64), .d (.int .i64), .d .str])]⟩
abbrev out74v1 : Shape := ⟨[(0, .one (.d (.int .i64)))], [(100000, .lst 68 r8 false), (100001, .box 34 [.d (.int .i64), .d (.int .i64), .d (.int .i64), .d .str])]⟩
def b74v1 : Code := Tryz.f74.body.getD .skip
abbrev sh74v1_0 : Shape := ⟨[(0, .one (.own 100000)), (1, .one (.clo 45 [some (100001, 0)])), (7, .one (.d (.int .i64))), (8, .one (.d (.int .i64)))], [(100000, .lst 68 r8 false), (100001, .box 34 [.d (.int .i64), .d (.int .i64), .d (.int .i64), .d .str])]⟩
abbrev os74v1_0 : List (XE × Shape) := [(.ret, ⟨[(4, .one (.d (.int .i64)))], [(100000, .lst 68 r8 false), (100001, .box 34 [.d (.int .i64), .d (.int .i64), .d (.int .i64), .d .str])]⟩), (.ex 0, ⟨[], [(100000, .lst 68 r8 false), (100001, .box 34 [.d (.int .i64), .d (.int .i64), .d (.int .i64), .d .str])]⟩)]
def cx74v1_0 : Cx := ⟨Tryz.prog, [e45], [], 19, [], []⟩
def B74v1_0 : Int × Int × List R8 × Int × Int × Int × ByteArray × Unit → Option ((Int × Int × List R8 × Int × Int × Int × ByteArray × Unit) ⊕ (Int × List R8 × Int × Int × Int × ByteArray × Unit) ⊕ (List R8 × Int × Int × Int × ByteArray × Unit)) := round cx74v1_0 (sub [1, 0, 1, 0, 0] b74v1) sh74v1_0 os74v1_0
def ce74v1_0 : CE := ⟨sh74v1_0, os74v1_0, loop B74v1_0⟩
theorem okc74v1_0 : CEOK Tryz.prog 19 (.at (.loop (sub [1, 0, 1, 0, 0] b74v1))) ce74v1_0 := round_ok (cx := cx74v1_0) (fun R => step_sound (all_fe (P := Tryz.prog) (l := [e45]) ⟨ok45, trivial⟩) R) (needs_of (l := []) (by kernel_rfl) trivial) sh74v1_0 os74v1_0
def cx74v1 : Cx := ⟨Tryz.prog, [e45], [], 19, [(4, ce74v1_0)], []⟩
def F74v1 : List R8 × Int × Int × Int × ByteArray × Unit → Option (Int × List R8 × Int × Int × Int × ByteArray × Unit) := func cx74v1 Tryz.f74 b74v1 sh74v1 out74v1
def e74v1 : FE := ⟨74, sh74v1, out74v1, F74v1⟩
theorem ok74v1 : FEOK Tryz.prog e74v1 := func_ok (cx := cx74v1) (fn := Tryz.f74) (c := b74v1) (all_fe (P := Tryz.prog) (l := [e45]) ⟨ok45, trivial⟩) (by kernel_rfl) (by kernel_rfl) (by kernel_rfl) (by kernel_rfl) (by kernel_rfl) (needs_of (l := [((.at (.loop (sub [1, 0, 1, 0, 0] b74v1))), ce74v1_0)]) (by kernel_rfl) ⟨okc74v1_0, trivial⟩)
abbrev sh44 : Shape := ⟨[(0, .one (.own 100000)), (1, .one (.clo 45 [some (100001, 0)]))], [(100000, .lst 68 r8 false), (100001, .box 34 [.d (.int .i64), .d (.int .i64), .d (.int .i64), .d .str])]⟩
abbrev out44 : Shape := ⟨[(0, .one (.d .bool))], [(100000, .lst 68 r8 false), (100001, .box 34 [.d (.int .i64), .d (.int .i64), .d (.int .i64), .d .str])]⟩
def b44 : Code := Tryz.f44.body.getD .skip
def cx44 : Cx := ⟨Tryz.prog, [e74v1], [], 9, [], []⟩
def F44 : List R8 × Int × Int × Int × ByteArray × Unit → Option (Bool × List R8 × Int × Int × Int × ByteArray × Unit) := func cx44 Tryz.f44 b44 sh44 out44
def e44 : FE := ⟨44, sh44, out44, F44⟩
theorem ok44 : FEOK Tryz.prog e44 := func_ok (cx := cx44) (fn := Tryz.f44) (c := b44) (all_fe (P := Tryz.prog) (l := [e74v1]) ⟨ok74v1, trivial⟩) (by kernel_rfl) (by kernel_rfl) (by kernel_rfl) (by kernel_rfl) (by kernel_rfl) (needs_of (l := []) (by kernel_rfl) trivial)
abbrev sh24 : Shape := ⟨[(0, .one (.d (.list r7))), (1, .row [.d (.int .i64), .d (.int .i64), .d (.int .i64), .d .str])], []⟩
abbrev out24 : Shape := ⟨[(0, .one (.d .bool))], []⟩
def b24 : Code := Tryz.f24.body.getD .skip
def cx24 : Cx := ⟨Tryz.prog, [e39, e44], [], 9, [], []⟩
def F24 : List R7 × Int × Int × Int × ByteArray × Unit → Option (Bool × Unit) := func cx24 Tryz.f24 b24 sh24 out24
def e24 : FE := ⟨24, sh24, out24, F24⟩
theorem ok24 : FEOK Tryz.prog e24 := func_ok (cx := cx24) (fn := Tryz.f24) (c := b24) (all_fe (P := Tryz.prog) (l := [e39, e44]) ⟨ok39, ok44, trivial⟩) (by kernel_rfl) (by kernel_rfl) (by kernel_rfl) (by kernel_rfl) (by kernel_rfl) (needs_of (l := []) (by kernel_rfl) trivial)
abbrev sh50 : Shape := ⟨[(0, .one (.d .str))], []⟩
abbrev out50 : Shape := ⟨[(0, .one (.ptr 200000 0))], [(200000, .box 107 [.d .str, .d (.int .i64)])]⟩
def b50 : Code := Tryz.f50.body.getD .skip
def cx50 : Cx := ⟨Tryz.prog, [], [], 7, [], []⟩
def F50 : ByteArray × Unit → Option (ByteArray × Int × Unit) := func cx50 Tryz.f50 b50 sh50 out50
def e50 : FE := ⟨50, sh50, out50, F50⟩
theorem ok50 : FEOK Tryz.prog e50 := func_ok (cx := cx50) (fn := Tryz.f50) (c := b50) (all_fe (P := Tryz.prog) (l := []) trivial) (by kernel_rfl) (by kernel_rfl) (by kernel_rfl) (by kernel_rfl) (by kernel_rfl) (needs_of (l := []) (by kernel_rfl) trivial)
abbrev sh77 : Shape := ⟨[], []⟩
abbrev out77 : Shape := ⟨[(0, .one (.d (.list r7)))], []⟩
def b77 : Code := Tryz.f77.body.getD .skip
def cx77 : Cx := ⟨Tryz.prog, [e43], [], 4, [], []⟩
def F77 : Unit → Option (List R7 × Unit) := func cx77 Tryz.f77 b77 sh77 out77
def e77 : FE := ⟨77, sh77, out77, F77⟩
theorem ok77 : FEOK Tryz.prog e77 := func_ok (cx := cx77) (fn := Tryz.f77) (c := b77) (all_fe (P := Tryz.prog) (l := [e43]) ⟨ok43, trivial⟩) (by kernel_rfl) (by kernel_rfl) (by kernel_rfl) (by kernel_rfl) (by kernel_rfl) (needs_of (l := []) (by kernel_rfl) trivial)
abbrev sh106 : Shape := ⟨[(0, .one (.d .str)), (1, .one (.d .str))], []⟩
abbrev out106 : Shape := ⟨[(0, .one (.d .bool))], []⟩
def b106 : Code := Tryz.f106.body.getD .skip
def cx106 : Cx := ⟨Tryz.prog, [], [], 18, [], []⟩
def F106 : ByteArray × ByteArray × Unit → Option (Bool × Unit) := func cx106 Tryz.f106 b106 sh106 out106
def e106 : FE := ⟨106, sh106, out106, F106⟩
theorem ok106 : FEOK Tryz.prog e106 := func_ok (cx := cx106) (fn := Tryz.f106) (c := b106) (all_fe (P := Tryz.prog) (l := []) trivial) (by kernel_rfl) (by kernel_rfl) (by kernel_rfl) (by kernel_rfl) (by kernel_rfl) (needs_of (l := []) (by kernel_rfl) trivial)
abbrev sh82 : Shape := ⟨[(0, .one (.d .str)), (1, .one (.d .str))], []⟩
abbrev out82 : Shape := ⟨[(0, .one (.d .bool))], []⟩
def b82 : Code := Tryz.f82.body.getD .skip
def cx82 : Cx := ⟨Tryz.prog, [e106], [], 8, [], []⟩
def F82 : ByteArray × ByteArray × Unit → Option (Bool × Unit) := func cx82 Tryz.f82 b82 sh82 out82
def e82 : FE := ⟨82, sh82, out82, F82⟩
theorem ok82 : FEOK Tryz.prog e82 := func_ok (cx := cx82) (fn := Tryz.f82) (c := b82) (all_fe (P := Tryz.prog) (l := [e106]) ⟨ok106, trivial⟩) (by kernel_rfl) (by kernel_rfl) (by kernel_rfl) (by kernel_rfl) (by kernel_rfl) (needs_of (l := []) (by kernel_rfl) trivial)
abbrev sh52 : Shape := ⟨[(0, .one (.ptr 100000 0)), (1, .one (.d .str))], [(100000, .box 107 [.d .str, .d (.int .i64)])]⟩
abbrev out52 : Shape := ⟨[(0, .one (.d .bool))], [(100000, .box 107 [.d .str, .d (.int .i64)])]⟩
def b52 : Code := Tryz.f52.body.getD .skip
def cx52 : Cx := ⟨Tryz.prog, [e82], [], 29, [], []⟩
def F52 : ByteArray × ByteArray × Int × Unit → Option (Bool × ByteArray × Int × Unit) := func cx52 Tryz.f52 b52 sh52 out52
def e52 : FE := ⟨52, sh52, out52, F52⟩
theorem ok52 : FEOK Tryz.prog e52 := func_ok (cx := cx52) (fn := Tryz.f52) (c := b52) (all_fe (P := Tryz.prog) (l := [e82]) ⟨ok82, trivial⟩) (by kernel_rfl) (by kernel_rfl) (by kernel_rfl) (by kernel_rfl) (by kernel_rfl) (needs_of (l := []) (by kernel_rfl) trivial)
abbrev sh140 : Shape := ⟨[(0, .one (.d .str))], []⟩
abbrev out140 : Shape := ⟨[(0, .one (.d .str))], []⟩
def b140 : Code := Tryz.f140.body.getD .skip
def cx140 : Cx := ⟨Tryz.prog, [], [9], 18, [], []⟩
def F140 : ByteArray × Unit → Option (ByteArray × Unit) := func cx140 Tryz.f140 b140 sh140 out140
def e140 : FE := ⟨140, sh140, out140, F140⟩
theorem ok140 : FEOK Tryz.prog e140 := func_ok (cx := cx140) (fn := Tryz.f140) (c := b140) (all_fe (P := Tryz.prog) (l := []) trivial) (by kernel_rfl) (by kernel_rfl) (by kernel_rfl) (by kernel_rfl) (by kernel_rfl) (needs_of (l := []) (by kernel_rfl) trivial)
abbrev sh104 : Shape := ⟨[(0, .one (.d .str))], []⟩
abbrev out104 : Shape := ⟨[(0, .one (.d .str))], []⟩
def b104 : Code := Tryz.f104.body.getD .skip
def cx104 : Cx := ⟨Tryz.prog, [e140], [], 5, [], []⟩
def F104 : ByteArray × Unit → Option (ByteArray × Unit) := func cx104 Tryz.f104 b104 sh104 out104
def e104 : FE := ⟨104, sh104, out104, F104⟩
theorem ok104 : FEOK Tryz.prog e104 := func_ok (cx := cx104) (fn := Tryz.f104) (c := b104) (all_fe (P := Tryz.prog) (l := [e140]) ⟨ok140, trivial⟩) (by kernel_rfl) (by kernel_rfl) (by kernel_rfl) (by kernel_rfl) (by kernel_rfl) (needs_of (l := []) (by kernel_rfl) trivial)
abbrev sh133 : Shape := ⟨[(0, .one (.d .str)), (1, .one (.d (.int .u8)))], []⟩
abbrev out133 : Shape := ⟨[(0, .one (.d (.int .i64)))], []⟩
def b133 : Code := Tryz.f133.body.getD .skip
def cx133 : Cx := ⟨Tryz.prog, [e161], [], 8, [], []⟩
def F133 : ByteArray × Int × Unit → Option (Int × Unit) := func cx133 Tryz.f133 b133 sh133 out133
def e133 : FE := ⟨133, sh133, out133, F133⟩
theorem ok133 : FEOK Tryz.prog e133 := func_ok (cx := cx133) (fn := Tryz.f133) (c := b133) (all_fe (P := Tryz.prog) (l := [e161]) ⟨ok161, trivial⟩) (by kernel_rfl) (by kernel_rfl) (by kernel_rfl) (by kernel_rfl) (by kernel_rfl) (needs_of (l := []) (by kernel_rfl) trivial)
abbrev sh156 : Shape := ⟨[(0, .one (.ptr 100000 0))], [(100000, .box 107 [.d .str, .d (.int .i64)])]⟩
abbrev out156 : Shape := ⟨[(0, .one (.d (.int .u8))), (1, .one (.d .bool))], [(100000, .box 107 [.d .str, .d (.int .i64)])]⟩
def b156 : Code := Tryz.f156.body.getD .skip
def cx156 : Cx := ⟨Tryz.prog, [], [], 23, [], []⟩
def F156 : ByteArray × Int × Unit → Option (Int × Bool × ByteArray × Int × Unit) := func cx156 Tryz.f156 b156 sh156 out156
def e156 : FE := ⟨156, sh156, out156, F156⟩
theorem ok156 : FEOK Tryz.prog e156 := func_ok (cx := cx156) (fn := Tryz.f156) (c := b156) (all_fe (P := Tryz.prog) (l := []) trivial) (by kernel_rfl) (by kernel_rfl) (by kernel_rfl) (by kernel_rfl) (by kernel_rfl) (needs_of (l := []) (by kernel_rfl) trivial)
abbrev sh126 : Shape := ⟨[(0, .one (.ptr 100000 0)), (1, .one (.d .str))], [(100000, .box 107 [.d .str, .d (.int .i64)])]⟩
abbrev out126 : Shape := ⟨[(0, .one (.d .str))], [(100000, .box 107 [.d .str, .d (.int .i64)])]⟩
def b126 : Code := Tryz.f126.body.getD .skip
abbrev sh126_0 : Shape := ⟨[(0, .one (.ptr 100000 0)), (1, .one (.d .str)), (5, .one (.d (.int .i64))), (6, .one (.d (.int .u8))), (7, .one (.d .bool))], [(100000, .box 107 [.d .str, .d (.int .i64)])]⟩
abbrev os126_0 : List (XE × Shape) := [(.ex 0, ⟨[(0, .one (.ptr 100000 0)), (5, .one (.d (.int .i64)))], [(100000, .box 107 [.d .str, .d (.int .i64)])]⟩)]
def cx126_0 : Cx := ⟨Tryz.prog, [e104, e133, e156], [], 56, [], []⟩
def B126_0 : ByteArray × Int × Int × Bool × ByteArray × Int × Unit → Option ((ByteArray × Int × Int × Bool × ByteArray × Int × Unit) ⊕ Int × ByteArray × Int × Unit) := round cx126_0 (sub [1, 1, 0, 1, 0, 0] b126) sh126_0 os126_0
def ce126_0 : CE := ⟨sh126_0, os126_0, loop B126_0⟩
theorem okc126_0 : CEOK Tryz.prog 56 (.at (.loop (sub [1, 1, 0, 1, 0, 0] b126))) ce126_0 := round_ok (cx := cx126_0) (fun R => step_sound (all_fe (P := Tryz.prog) (l := [e104, e133, e156]) ⟨ok104, ok133, ok156, trivial⟩) R) (needs_of (l := []) (by kernel_rfl) trivial) sh126_0 os126_0
def cx126 : Cx := ⟨Tryz.prog, [e104, e133, e156], [], 56, [(6, ce126_0)], []⟩
def F126 : ByteArray × ByteArray × Int × Unit → Option (ByteArray × ByteArray × Int × Unit) := func cx126 Tryz.f126 b126 sh126 out126
def e126 : FE := ⟨126, sh126, out126, F126⟩
theorem ok126 : FEOK Tryz.prog e126 := func_ok (cx := cx126) (fn := Tryz.f126) (c := b126) (all_fe (P := Tryz.prog) (l := [e104, e133, e156]) ⟨ok104, ok133, ok156, trivial⟩) (by kernel_rfl) (by kernel_rfl) (by kernel_rfl) (by kernel_rfl) (by kernel_rfl) (needs_of (l := [((.at (.loop (sub [1, 1, 0, 1, 0, 0] b126))), ce126_0)]) (by kernel_rfl) ⟨okc126_0, trivial⟩)
abbrev sh96 : Shape := ⟨[(0, .one (.ptr 100000 0))], [(100000, .box 80 [.ptr 100001 0, .d .str, .d .str, .d (.int .i64)]), (100001, .box 107 [.d .str, .d (.int .i64)])]⟩
abbrev out96 : Shape := ⟨[], [(100000, .box 80 [.ptr 100001 0, .d .str, .d .str, .d (.int .i64)]), (100001, .box 107 [.d .str, .d (.int .i64)])]⟩
def b96 : Code := Tryz.f96.body.getD .skip
def cx96 : Cx := ⟨Tryz.prog, [e126], [], 7, [], []⟩
def F96 : ByteArray × ByteArray × Int × ByteArray × Int × Unit → Option (ByteArray × ByteArray × Int × ByteArray × Int × Unit) := func cx96 Tryz.f96 b96 sh96 out96
def e96 : FE := ⟨96, sh96, out96, F96⟩
theorem ok96 : FEOK Tryz.prog e96 := func_ok (cx := cx96) (fn := Tryz.f96) (c := b96) (all_fe (P := Tryz.prog) (l := [e126]) ⟨ok126, trivial⟩) (by kernel_rfl) (by kernel_rfl) (by kernel_rfl) (by kernel_rfl) (by kernel_rfl) (needs_of (l := []) (by kernel_rfl) trivial)
abbrev sh78 : Shape := ⟨[(0, .one (.ptr 100000 0))], [(100000, .box 80 [.ptr 100001 0, .d .str, .d .str, .d (.int .i64)]), (100001, .box 107 [.d .str, .d (.int .i64)])]⟩
abbrev out78 : Shape := ⟨[(0, .one (.d .bool))], [(100000, .box 80 [.ptr 100001 0, .d .str, .d .str, .d (.int .i64)]), (100001, .box 107 [.d .str, .d (.int .i64)])]⟩
def b78 : Code := Tryz.f78.body.getD .skip
def cx78 : Cx := ⟨Tryz.prog, [e52, e96, e97], [], 69, [], []⟩
def F78 : ByteArray × ByteArray × Int × ByteArray × Int × Unit → Option (Bool × ByteArray × ByteArray × Int × ByteArray × Int × Unit) := func cx78 Tryz.f78 b78 sh78 out78
def e78 : FE := ⟨78, sh78, out78, F78⟩
theorem ok78 : FEOK Tryz.prog e78 := func_ok (cx := cx78) (fn := Tryz.f78) (c := b78) (all_fe (P := Tryz.prog) (l := [e52, e96, e97]) ⟨ok52, ok96, ok97, trivial⟩) (by kernel_rfl) (by kernel_rfl) (by kernel_rfl) (by kernel_rfl) (by kernel_rfl) (needs_of (l := []) (by kernel_rfl) trivial)
abbrev sh137 : Shape := ⟨[(0, .one (.d .str)), (1, .one (.d .str))], []⟩
abbrev out137 : Shape := ⟨[(0, .one (.d .str)), (1, .one (.d .bool))], []⟩
def b137 : Code := Tryz.f137.body.getD .skip
def cx137 : Cx := ⟨Tryz.prog, [e106], [], 15, [], []⟩
def F137 : ByteArray × ByteArray × Unit → Option (ByteArray × Bool × Unit) := func cx137 Tryz.f137 b137 sh137 out137
def e137 : FE := ⟨137, sh137, out137, F137⟩
theorem ok137 : FEOK Tryz.prog e137 := func_ok (cx := cx137) (fn := Tryz.f137) (c := b137) (all_fe (P := Tryz.prog) (l := [e106]) ⟨ok106, trivial⟩) (by kernel_rfl) (by kernel_rfl) (by kernel_rfl) (by kernel_rfl) (by kernel_rfl) (needs_of (l := []) (by kernel_rfl) trivial)
abbrev sh100 : Shape := ⟨[(0, .one (.d .str)), (1, .one (.d .str))], []⟩
abbrev out100 : Shape := ⟨[(0, .one (.d .str)), (1, .one (.d .bool))], []⟩
def b100 : Code := Tryz.f100.body.getD .skip
def cx100 : Cx := ⟨Tryz.prog, [e137], [], 11, [], []⟩
def F100 : ByteArray × ByteArray × Unit → Option (ByteArray × Bool × Unit) := func cx100 Tryz.f100 b100 sh100 out100
def e100 : FE := ⟨100, sh100, out100, F100⟩
theorem ok100 : FEOK Tryz.prog e100 := func_ok (cx := cx100) (fn := Tryz.f100) (c := b100) (all_fe (P := Tryz.prog) (l := [e137]) ⟨ok137, trivial⟩) (by kernel_rfl) (by kernel_rfl) (by kernel_rfl) (by kernel_rfl) (by kernel_rfl) (needs_of (l := []) (by kernel_rfl) trivial)
abbrev sh103 : Shape := ⟨[(0, .one (.d .str))], []⟩
abbrev out103 : Shape := ⟨[(0, .one (.d (.int .i64))), (1, .one (.d .bool))], []⟩
def b103 : Code := Tryz.f103.body.getD .skip
abbrev sh103_0 : Shape := ⟨[(0, .one (.d .str)), (4, .one (.d (.int .i64))), (25, .one (.d (.int .i64))), (26, .one (.d (.int .i64)))], []⟩
abbrev os103_0 : List (XE × Shape) := [(.ret, ⟨[(2, .one (.d (.int .i64))), (3, .one (.d .bool))], []⟩), (.ex 0, ⟨[(4, .one (.d (.int .i64)))], []⟩)]
def cx103_0 : Cx := ⟨Tryz.prog, [], [], 49, [], []⟩
def B103_0 : ByteArray × Int × Int × Int × Unit → Option ((ByteArray × Int × Int × Int × Unit) ⊕ (Int × Bool × Unit) ⊕ (Int × Unit)) := round cx103_0 (sub [1, 1, 1, 0, 1, 0, 0] b103) sh103_0 os103_0
def ce103_0 : CE := ⟨sh103_0, os103_0, loop B103_0⟩
theorem okc103_0 : CEOK Tryz.prog 49 (.at (.loop (sub [1, 1, 1, 0, 1, 0, 0] b103))) ce103_0 := round_ok (cx := cx103_0) (fun R => step_sound (all_fe (P := Tryz.prog) (l := []) trivial) R) (needs_of (l := []) (by kernel_rfl) trivial) sh103_0 os103_0
def cx103 : Cx := ⟨Tryz.prog, [], [], 49, [(10, ce103_0)], []⟩
def F103 : ByteArray × Unit → Option (Int × Bool × Unit) := func cx103 Tryz.f103 b103 sh103 out103
def e103 : FE := ⟨103, sh103, out103, F103⟩
theorem ok103 : FEOK Tryz.prog e103 := func_ok (cx := cx103) (fn := Tryz.f103) (c := b103) (all_fe (P := Tryz.prog) (l := []) trivial) (by kernel_rfl) (by kernel_rfl) (by kernel_rfl) (by kernel_rfl) (by kernel_rfl) (needs_of (l := [((.at (.loop (sub [1, 1, 1, 0, 1, 0, 0] b103))), ce103_0)]) (by kernel_rfl) ⟨okc103_0, trivial⟩)
abbrev sh173 : Shape := ⟨[(0, .one (.d .str)), (1, .one (.d .str))], []⟩
abbrev out173 : Shape := ⟨[(0, .one (.d .bool))], []⟩
def b173 : Code := Tryz.f173.body.getD .skip
def cx173 : Cx := ⟨Tryz.prog, [], [], 21, [], []⟩
def F173 : ByteArray × ByteArray × Unit → Option (Bool × Unit) := func cx173 Tryz.f173 b173 sh173 out173
def e173 : FE := ⟨173, sh173, out173, F173⟩
theorem ok173 : FEOK Tryz.prog e173 := func_ok (cx := cx173) (fn := Tryz.f173) (c := b173) (all_fe (P := Tryz.prog) (l := []) trivial) (by kernel_rfl) (by kernel_rfl) (by kernel_rfl) (by kernel_rfl) (by kernel_rfl) (needs_of (l := []) (by kernel_rfl) trivial)
abbrev sh160 : Shape := ⟨[(0, .one (.d .str)), (1, .one (.d .str))], []⟩
abbrev out160 : Shape := ⟨[(0, .one (.d .str)), (1, .one (.d .bool))], []⟩
def b160 : Code := Tryz.f160.body.getD .skip
def cx160 : Cx := ⟨Tryz.prog, [e173], [], 18, [], []⟩
def F160 : ByteArray × ByteArray × Unit → Option (ByteArray × Bool × Unit) := func cx160 Tryz.f160 b160 sh160 out160
def e160 : FE := ⟨160, sh160, out160, F160⟩
theorem ok160 : FEOK Tryz.prog e160 := func_ok (cx := cx160) (fn := Tryz.f160) (c := b160) (all_fe (P := Tryz.prog) (l := [e173]) ⟨ok173, trivial⟩) (by kernel_rfl) (by kernel_rfl) (by kernel_rfl) (by kernel_rfl) (by kernel_rfl) (needs_of (l := []) (by kernel_rfl) trivial)
abbrev sh131 : Shape := ⟨[(0, .one (.d .str)), (1, .one (.d .str))], []⟩
abbrev out131 : Shape := ⟨[(0, .one (.d .str)), (1, .one (.d .bool))], []⟩
def b131 : Code := Tryz.f131.body.getD .skip
def cx131 : Cx := ⟨Tryz.prog, [e160], [], 11, [], []⟩
def F131 : ByteArray × ByteArray × Unit → Option (ByteArray × Bool × Unit) := func cx131 Tryz.f131 b131 sh131 out131
def e131 : FE := ⟨131, sh131, out131, F131⟩
theorem ok131 : FEOK Tryz.prog e131 := func_ok (cx := cx131) (fn := Tryz.f131) (c := b131) (all_fe (P := Tryz.prog) (l := [e160]) ⟨ok160, trivial⟩) (by kernel_rfl) (by kernel_rfl) (by kernel_rfl) (by kernel_rfl) (by kernel_rfl) (needs_of (l := []) (by kernel_rfl) trivial)
abbrev sh132 : Shape := ⟨[(0, .row [.d (.int .i64), .d (.int .i64), .d (.int .i64), .d .str]), (1, .one (.d (.int .i64)))], []⟩
abbrev out132 : Shape := ⟨[(0, .row [.d (.int .i64), .d (.int .i64), .d (.int .i64), .d .str, .d .bool, .d .bool])], []⟩
def b132 : Code := Tryz.f132.body.getD .skip
abbrev sh132_0 : Shape := ⟨[(1, .one (.d (.int .i64))), (4, .one (.ptr 200000 0)), (5, .one (.ptr 200001 0)), (6, .one (.d (.int .i64)))], [(200000, .box 66 [.d (.int .i64), .d (.int .i64), .d (.int .i64), .d .str, .d .bool, .d .bool]), (200001, .box 92 [.d (.int .i64), .d (.int .i64), .d (.int .i64)])]⟩
abbrev os132_0 : List (XE × Shape) := [(.ex 0, ⟨[(1, .one (.d (.int .i64))), (4, .one (.ptr 200000 0)), (5, .one (.ptr 200001 0))], [(200000, .box 66 [.d (.int .i64), .d (.int .i64), .d (.int .i64), .d .str, .d .bool, .d .bool]), (200001, .box 92 [.d (.int .i64), .d (.int .i64), .d (.int .i64)])]⟩)]
def cx132_0 : Cx := ⟨Tryz.prog, [], [], 46, [], []⟩
def B132_0 : Int × Int × Int × Int × Int × ByteArray × Bool × Bool × Int × Int × Int × Unit → Option ((Int × Int × Int × Int × Int × ByteArray × Bool × Bool × Int × Int × Int × Unit) ⊕ Int × Int × Int × Int × ByteArray × Bool × Bool × Int × Int × Int × Unit) := round cx132_0 (sub [1, 1, 0, 1, 0, 0] b132) sh132_0 os132_0
def ce132_0 : CE := ⟨sh132_0, os132_0, loop B132_0⟩
theorem okc132_0 : CEOK Tryz.prog 46 (.at (.loop (sub [1, 1, 0, 1, 0, 0] b132))) ce132_0 := round_ok (cx := cx132_0) (fun R => step_sound (all_fe (P := Tryz.prog) (l := []) trivial) R) (needs_of (l := []) (by kernel_rfl) trivial) sh132_0 os132_0
abbrev sh132_1 : Shape := ⟨[(1, .one (.d (.int .i64))), (4, .one (.ptr 200000 0)), (5, .one (.ptr 200001 0))], [(200000, .box 66 [.d (.int .i64), .d (.int .i64), .d (.int .i64), .d .str, .d .bool, .d .bool]), (200001, .box 92 [.d (.int .i64), .d (.int .i64), .d (.int .i64)])]⟩
abbrev os132_1 : List (XE × Shape) := [(.ret, ⟨[(4, .one (.ptr 200000 0))], [(200000, .box 66 [.d (.int .i64), .d (.int .i64), .d (.int .i64), .d .str, .d .bool, .d .bool])]⟩), (.ex 2, ⟨[(4, .one (.ptr 200000 0))], [(200000, .box 66 [.d (.int .i64), .d (.int .i64), .d (.int .i64), .d .str, .d .bool, .d .bool])]⟩)]
def cx132_1 : Cx := ⟨Tryz.prog, [], [], 46, [(6, ce132_0)], []⟩
def B132_1 : Int × Int × Int × Int × ByteArray × Bool × Bool × Int × Int × Int × Unit → Option ((Int × Int × Int × Int × ByteArray × Bool × Bool × Int × Int × Int × Unit) ⊕ (Int × Int × Int × ByteArray × Bool × Bool × Unit) ⊕ (Int × Int × Int × ByteArray × Bool × Bool × Unit)) := round cx132_1 (sub [1, 1, 1, 0, 0, 0] b132) sh132_1 os132_1
def ce132_1 : CE := ⟨sh132_1, os132_1, loop B132_1⟩
theorem okc132_1 : CEOK Tryz.prog 46 (.at (.loop (sub [1, 1, 1, 0, 0, 0] b132))) ce132_1 := round_ok (cx := cx132_1) (fun R => step_sound (all_fe (P := Tryz.prog) (l := []) trivial) R) (needs_of (l := []) (by kernel_rfl) trivial) sh132_1 os132_1
def cx132 : Cx := ⟨Tryz.prog, [], [], 46, [(6, ce132_0), (12, ce132_1)], []⟩
def F132 : Int × Int × Int × ByteArray × Int × Unit → Option (Int × Int × Int × ByteArray × Bool × Bool × Unit) := func cx132 Tryz.f132 b132 sh132 out132
def e132 : FE := ⟨132, sh132, out132, F132⟩
theorem ok132 : FEOK Tryz.prog e132 := func_ok (cx := cx132) (fn := Tryz.f132) (c := b132) (all_fe (P := Tryz.prog) (l := []) trivial) (by kernel_rfl) (by kernel_rfl) (by kernel_rfl) (by kernel_rfl) (by kernel_rfl) (needs_of (l := [((.at (.loop (sub [1, 1, 0, 1, 0, 0] b132))), ce132_0), ((.at (.loop (sub [1, 1, 1, 0, 0, 0] b132))), ce132_1)]) (by kernel_rfl) ⟨okc132_0, okc132_1, trivial⟩)
abbrev sh134 : Shape := ⟨[], []⟩
abbrev out134 : Shape := ⟨[(0, .row [.d (.int .i64), .d (.int .i64), .d (.int .i64), .d .str, .d .bool, .d .bool])], []⟩
def b134 : Code := Tryz.f134.body.getD .skip
def cx134 : Cx := ⟨Tryz.prog, [], [], 2, [], []⟩
def F134 : Unit → Option (Int × Int × Int × ByteArray × Bool × Bool × Unit) := func cx134 Tryz.f134 b134 sh134 out134
def e134 : FE := ⟨134, sh134, out134, F134⟩
theorem ok134 : FEOK Tryz.prog e134 := func_ok (cx := cx134) (fn := Tryz.f134) (c := b134) (all_fe (P := Tryz.prog) (l := []) trivial) (by kernel_rfl) (by kernel_rfl) (by kernel_rfl) (by kernel_rfl) (by kernel_rfl) (needs_of (l := []) (by kernel_rfl) trivial)
abbrev sh135 : Shape := ⟨[], []⟩
abbrev out135 : Shape := ⟨[(0, .row [.d (.int .i64), .d (.int .i64), .d (.int .i64), .d .str, .d .bool, .d .bool])], []⟩
def b135 : Code := Tryz.f135.body.getD .skip
def cx135 : Cx := ⟨Tryz.prog, [e43], [], 3, [], []⟩
def F135 : Unit → Option (Int × Int × Int × ByteArray × Bool × Bool × Unit) := func cx135 Tryz.f135 b135 sh135 out135
def e135 : FE := ⟨135, sh135, out135, F135⟩
theorem ok135 : FEOK Tryz.prog e135 := func_ok (cx := cx135) (fn := Tryz.f135) (c := b135) (all_fe (P := Tryz.prog) (l := [e43]) ⟨ok43, trivial⟩) (by kernel_rfl) (by kernel_rfl) (by kernel_rfl) (by kernel_rfl) (by kernel_rfl) (needs_of (l := []) (by kernel_rfl) trivial)
abbrev sh136 : Shape := ⟨[(0, .row [.d (.int .i64), .d (.int .i64), .d (.int .i64), .d .str])], []⟩
abbrev out136 : Shape := ⟨[(0, .row [.d (.int .i64), .d (.int .i64), .d (.int .i64), .d .str, .d .bool, .d .bool])], []⟩
def b136 : Code := Tryz.f136.body.getD .skip
def cx136 : Cx := ⟨Tryz.prog, [e132], [], 17, [], []⟩
def F136 : Int × Int × Int × ByteArray × Unit → Option (Int × Int × Int × ByteArray × Bool × Bool × Unit) := func cx136 Tryz.f136 b136 sh136 out136
def e136 : FE := ⟨136, sh136, out136, F136⟩
theorem ok136 : FEOK Tryz.prog e136 := func_ok (cx := cx136) (fn := Tryz.f136) (c := b136) (all_fe (P := Tryz.prog) (l := [e132]) ⟨ok132, trivial⟩) (by kernel_rfl) (by kernel_rfl) (by kernel_rfl) (by kernel_rfl) (by kernel_rfl) (needs_of (l := []) (by kernel_rfl) trivial)
abbrev sh138 : Shape := ⟨[(0, .one (.d .str)), (1, .one (.d .str))], []⟩
abbrev out138 : Shape := ⟨[(0, .one (.d .str)), (1, .one (.d .str)), (2, .one (.d .bool))], []⟩
def b138 : Code := Tryz.f138.body.getD .skip
def cx138 : Cx := ⟨Tryz.prog, [e162], [], 23, [], []⟩
def F138 : ByteArray × ByteArray × Unit → Option (ByteArray × ByteArray × Bool × Unit) := func cx138 Tryz.f138 b138 sh138 out138
def e138 : FE := ⟨138, sh138, out138, F138⟩
theorem ok138 : FEOK Tryz.prog e138 := func_ok (cx := cx138) (fn := Tryz.f138) (c := b138) (all_fe (P := Tryz.prog) (l := [e162]) ⟨ok162, trivial⟩) (by kernel_rfl) (by kernel_rfl) (by kernel_rfl) (by kernel_rfl) (by kernel_rfl) (needs_of (l := []) (by kernel_rfl) trivial)
abbrev sh101 : Shape := ⟨[(0, .one (.d .str)), (1, .one (.d .str))], []⟩
abbrev out101 : Shape := ⟨[(0, .one (.d .str)), (1, .one (.d .str)), (2, .one (.d .bool))], []⟩
def b101 : Code := Tryz.f101.body.getD .skip
def cx101 : Cx := ⟨Tryz.prog, [e138], [], 13, [], []⟩
def F101 : ByteArray × ByteArray × Unit → Option (ByteArray × ByteArray × Bool × Unit) := func cx101 Tryz.f101 b101 sh101 out101
def e101 : FE := ⟨101, sh101, out101, F101⟩
theorem ok101 : FEOK Tryz.prog e101 := func_ok (cx := cx101) (fn := Tryz.f101) (c := b101) (all_fe (P := Tryz.prog) (l := [e138]) ⟨ok138, trivial⟩) (by kernel_rfl) (by kernel_rfl) (by kernel_rfl) (by kernel_rfl) (by kernel_rfl) (needs_of (l := []) (by kernel_rfl) trivial)
abbrev sh141 : Shape := ⟨[(0, .one (.d (.int .i64)))], []⟩
abbrev out141 : Shape := ⟨[(0, .one (.d .bool))], []⟩
def b141 : Code := Tryz.f141.body.getD .skip
def cx141 : Cx := ⟨Tryz.prog, [], [], 9, [], []⟩
def F141 : Int × Unit → Option (Bool × Unit) := func cx141 Tryz.f141 b141 sh141 out141
def e141 : FE := ⟨141, sh141, out141, F141⟩
theorem ok141 : FEOK Tryz.prog e141 := func_ok (cx := cx141) (fn := Tryz.f141) (c := b141) (all_fe (P := Tryz.prog) (l := []) trivial) (by kernel_rfl) (by kernel_rfl) (by kernel_rfl) (by kernel_rfl) (by kernel_rfl) (needs_of (l := []) (by kernel_rfl) trivial)
abbrev sh144 : Shape := ⟨[(0, .one (.d .str))], []⟩
abbrev out144 : Shape := ⟨[(0, .one (.d .bool))], []⟩
def b144 : Code := Tryz.f144.body.getD .skip
abbrev sh144_0 : Shape := ⟨[(0, .one (.d .str)), (5, .one (.d (.int .i64))), (6, .one (.d (.int .i64)))], []⟩
abbrev os144_0 : List (XE × Shape) := [(.ret, ⟨[(2, .one (.d .bool))], []⟩), (.ex 0, ⟨[(0, .one (.d .str))], []⟩)]
def cx144_0 : Cx := ⟨Tryz.prog, [e133, e149], [], 32, [], []⟩
def B144_0 : ByteArray × Int × Int × Unit → Option ((ByteArray × Int × Int × Unit) ⊕ (Bool × Unit) ⊕ (ByteArray × Unit)) := round cx144_0 (sub [1, 0, 1, 0, 0] b144) sh144_0 os144_0
def ce144_0 : CE := ⟨sh144_0, os144_0, loop B144_0⟩
theorem okc144_0 : CEOK Tryz.prog 32 (.at (.loop (sub [1, 0, 1, 0, 0] b144))) ce144_0 := round_ok (cx := cx144_0) (fun R => step_sound (all_fe (P := Tryz.prog) (l := [e133, e149]) ⟨ok133, ok149, trivial⟩) R) (needs_of (l := []) (by kernel_rfl) trivial) sh144_0 os144_0
def cx144 : Cx := ⟨Tryz.prog, [e133, e149], [], 32, [(4, ce144_0)], []⟩
def F144 : ByteArray × Unit → Option (Bool × Unit) := func cx144 Tryz.f144 b144 sh144 out144
def e144 : FE := ⟨144, sh144, out144, F144⟩
theorem ok144 : FEOK Tryz.prog e144 := func_ok (cx := cx144) (fn := Tryz.f144) (c := b144) (all_fe (P := Tryz.prog) (l := [e133, e149]) ⟨ok133, ok149, trivial⟩) (by kernel_rfl) (by kernel_rfl) (by kernel_rfl) (by kernel_rfl) (by kernel_rfl) (needs_of (l := [((.at (.loop (sub [1, 0, 1, 0, 0] b144))), ce144_0)]) (by kernel_rfl) ⟨okc144_0, trivial⟩)
abbrev sh143 : Shape := ⟨[(0, .one (.d .str))], []⟩
abbrev out143 : Shape := ⟨[(0, .one (.d .bool))], []⟩
def b143 : Code := Tryz.f143.body.getD .skip
def cx143 : Cx := ⟨Tryz.prog, [e144], [], 6, [], []⟩
def F143 : ByteArray × Unit → Option (Bool × Unit) := func cx143 Tryz.f143 b143 sh143 out143
def e143 : FE := ⟨143, sh143, out143, F143⟩
theorem ok143 : FEOK Tryz.prog e143 := func_ok (cx := cx143) (fn := Tryz.f143) (c := b143) (all_fe (P := Tryz.prog) (l := [e144]) ⟨ok144, trivial⟩) (by kernel_rfl) (by kernel_rfl) (by kernel_rfl) (by kernel_rfl) (by kernel_rfl) (needs_of (l := []) (by kernel_rfl) trivial)
abbrev sh166 : Shape := ⟨[(0, .one (.d (.list .str))), (1, .one (.fn 143))], []⟩
abbrev out166 : Shape := ⟨[(0, .one (.d (.int .i64)))], []⟩
def b166 : Code := Tryz.f166.body.getD .skip
abbrev sh166_0 : Shape := ⟨[(0, .one (.d (.list .str))), (1, .one (.fn 143)), (7, .one (.d (.int .i64))), (8, .one (.d (.int .i64)))], []⟩
abbrev os166_0 : List (XE × Shape) := [(.ret, ⟨[(4, .one (.d (.int .i64)))], []⟩), (.ex 0, ⟨[], []⟩)]
def cx166_0 : Cx := ⟨Tryz.prog, [e143], [], 19, [], []⟩
def B166_0 : List ByteArray × Int × Int × Unit → Option ((List ByteArray × Int × Int × Unit) ⊕ (Int × Unit) ⊕ (Unit)) := round cx166_0 (sub [1, 0, 1, 0, 0] b166) sh166_0 os166_0
def ce166_0 : CE := ⟨sh166_0, os166_0, loop B166_0⟩
theorem okc166_0 : CEOK Tryz.prog 19 (.at (.loop (sub [1, 0, 1, 0, 0] b166))) ce166_0 := round_ok (cx := cx166_0) (fun R => step_sound (all_fe (P := Tryz.prog) (l := [e143]) ⟨ok143, trivial⟩) R) (needs_of (l := []) (by kernel_rfl) trivial) sh166_0 os166_0
def cx166 : Cx := ⟨Tryz.prog, [e143], [], 19, [(4, ce166_0)], []⟩
def F166 : List ByteArray × Unit → Option (Int × Unit) := func cx166 Tryz.f166 b166 sh166 out166
def e166 : FE := ⟨166, sh166, out166, F166⟩
theorem ok166 : FEOK Tryz.prog e166 := func_ok (cx := cx166) (fn := Tryz.f166) (c := b166) (all_fe (P := Tryz.prog) (l := [e143]) ⟨ok143, trivial⟩) (by kernel_rfl) (by kernel_rfl) (by kernel_rfl) (by kernel_rfl) (by kernel_rfl) (needs_of (l := [((.at (.loop (sub [1, 0, 1, 0, 0] b166))), ce166_0)]) (by kernel_rfl) ⟨okc166_0, trivial⟩)
abbrev sh142 : Shape := ⟨[(0, .one (.d (.list .str))), (1, .one (.fn 143))], []⟩
abbrev out142 : Shape := ⟨[(0, .one (.d .bool))], []⟩
def b142 : Code := Tryz.f142.body.getD .skip
def cx142 : Cx := ⟨Tryz.prog, [e166], [], 9, [], []⟩
def F142 : List ByteArray × Unit → Option (Bool × Unit) := func cx142 Tryz.f142 b142 sh142 out142
def e142 : FE := ⟨142, sh142, out142, F142⟩
theorem ok142 : FEOK Tryz.prog e142 := func_ok (cx := cx142) (fn := Tryz.f142) (c := b142) (all_fe (P := Tryz.prog) (l := [e166]) ⟨ok166, trivial⟩) (by kernel_rfl) (by kernel_rfl) (by kernel_rfl) (by kernel_rfl) (by kernel_rfl) (needs_of (l := []) (by kernel_rfl) trivial)
abbrev sh105 : Shape := ⟨[(0, .row [.d (.int .i64), .d (.int .i64), .d (.int .i64), .d .str])], []⟩
abbrev out105 : Shape := ⟨[(0, .one (.d .bool))], []⟩
def b105 : Code := Tryz.f105.body.getD .skip
def cx105 : Cx := ⟨Tryz.prog, [e102, e141, e142], [], 33, [], []⟩
def F105 : Int × Int × Int × ByteArray × Unit → Option (Bool × Unit) := func cx105 Tryz.f105 b105 sh105 out105
def e105 : FE := ⟨105, sh105, out105, F105⟩
theorem ok105 : FEOK Tryz.prog e105 := func_ok (cx := cx105) (fn := Tryz.f105) (c := b105) (all_fe (P := Tryz.prog) (l := [e102, e141, e142]) ⟨ok102, ok141, ok142, trivial⟩) (by kernel_rfl) (by kernel_rfl) (by kernel_rfl) (by kernel_rfl) (by kernel_rfl) (needs_of (l := []) (by kernel_rfl) trivial)
abbrev sh80 : Shape := ⟨[(0, .one (.d .str))], []⟩
abbrev out80 : Shape := ⟨[(0, .row [.d (.int .i64), .d (.int .i64), .d (.int .i64), .d .str]), (1, .one (.d .bool))], []⟩
def b80 : Code := Tryz.f80.body.getD .skip
abbrev sh80_0 : Shape := ⟨[(2, .one (.ptr 200000 0)), (4, .one (.ptr 200001 0)), (7, .one (.d .str)), (9, .one (.d (.list .str))), (43, .one (.bs 200002 3)), (44, .one (.d (.int .i64))), (45, .one (.d (.int .i64)))], [(200000, .box 34 [.d (.int .i64), .d (.int .i64), .d (.int .i64), .d .str]), (200001, .box 34 [.d (.int .i64), .d (.int .i64), .d (.int .i64), .d .str]), (200002, .box 134 [.ptr 200001 0, .ptr 200001 1, .ptr 200001 2])]⟩
abbrev os80_0 : List (XE × Shape) := [(.ret, ⟨[(2, .one (.ptr 200000 0)), (3, .one (.d .bool))], [(200000, .box 34 [.d (.int .i64), .d (.int .i64), .d (.int .i64), .d .str])]⟩), (.ex 0, ⟨[(2, .one (.ptr 200000 0)), (4, .one (.ptr 200001 0)), (7, .one (.d .str))], [(200000, .box 34 [.d (.int .i64), .d (.int .i64), .d (.int .i64), .d .str]), (200001, .box 34 [.d (.int .i64), .d (.int .i64), .d (.int .i64), .d .str])]⟩)]
def cx80_0 : Cx := ⟨Tryz.prog, [e100, e101, e102, e103, e104, e105], [], 72, [], []⟩
def B80_0 : ByteArray × List ByteArray × Int × Int × Int × Int × Int × ByteArray × Int × Int × Int × ByteArray × Unit → Option ((ByteArray × List ByteArray × Int × Int × Int × Int × Int × ByteArray × Int × Int × Int × ByteArray × Unit) ⊕ (Bool × Int × Int × Int × ByteArray × Unit) ⊕ (ByteArray × Int × Int × Int × ByteArray × Int × Int × Int × ByteArray × Unit)) := round cx80_0 (sub [1, 1, 1, 1, 1, 1, 0, 1, 0, 0] b80) sh80_0 os80_0
def ce80_0 : CE := ⟨sh80_0, os80_0, loop B80_0⟩
theorem okc80_0 : CEOK Tryz.prog 72 (.at (.loop (sub [1, 1, 1, 1, 1, 1, 0, 1, 0, 0] b80))) ce80_0 := round_ok (cx := cx80_0) (fun R => step_sound (all_fe (P := Tryz.prog) (l := [e100, e101, e102, e103, e104, e105]) ⟨ok100, ok101, ok102, ok103, ok104, ok105, trivial⟩) R) (needs_of (l := []) (by kernel_rfl) trivial) sh80_0 os80_0
def cx80 : Cx := ⟨Tryz.prog, [e100, e101, e102, e103, e104, e105], [], 72, [(16, ce80_0)], []⟩
def F80 : ByteArray × Unit → Option (Int × Int × Int × ByteArray × Bool × Unit) := func cx80 Tryz.f80 b80 sh80 out80
def e80 : FE := ⟨80, sh80, out80, F80⟩
theorem ok80 : FEOK Tryz.prog e80 := func_ok (cx := cx80) (fn := Tryz.f80) (c := b80) (all_fe (P := Tryz.prog) (l := [e100, e101, e102, e103, e104, e105]) ⟨ok100, ok101, ok102, ok103, ok104, ok105, trivial⟩) (by kernel_rfl) (by kernel_rfl) (by kernel_rfl) (by kernel_rfl) (by kernel_rfl) (needs_of (l := [((.at (.loop (sub [1, 1, 1, 1, 1, 1, 0, 1, 0, 0] b80))), ce80_0)]) (by kernel_rfl) ⟨okc80_0, trivial⟩)
abbrev sh56 : Shape := ⟨[(0, .row [.d (.int .i64), .d (.int .i64), .d (.int .i64), .d .str])], []⟩
abbrev out56 : Shape := ⟨[(0, .one (.d .str))], []⟩
def b56 : Code := Tryz.f56.body.getD .skip
def cx56 : Cx := ⟨Tryz.prog, [e87], [], 27, [], []⟩
def F56 : Int × Int × Int × ByteArray × Unit → Option (ByteArray × Unit) := func cx56 Tryz.f56 b56 sh56 out56
def e56 : FE := ⟨56, sh56, out56, F56⟩
theorem ok56 : FEOK Tryz.prog e56 := func_ok (cx := cx56) (fn := Tryz.f56) (c := b56) (all_fe (P := Tryz.prog) (l := [e87]) ⟨ok87, trivial⟩) (by kernel_rfl) (by kernel_rfl) (by kernel_rfl) (by kernel_rfl) (by kernel_rfl) (needs_of (l := []) (by kernel_rfl) trivial)
abbrev sh147 : Shape := ⟨[(0, .one (.ptr 100000 0))], [(100000, .box 119 [.nilP, .nilS])]⟩
def e147 : FE := ⟨147, sh147, sh147, fun p => some p⟩
theorem ok147 : FEOK Tryz.prog e147 := ok_same (fn := Tryz.f147) (by kernel_rfl) (by kernel_rfl) (by kernel_rfl) (by kernel_rfl) (by kernel_rfl)
abbrev sh110 : Shape := ⟨[(0, .one (.ptr 100000 0))], [(100000, .box 119 [.nilP, .nilS])]⟩
abbrev out110 : Shape := ⟨[], [(100000, .box 119 [.ptr 100000 0, .nilS])]⟩
def b110 : Code := Tryz.f110.body.getD .skip
def cx110 : Cx := ⟨Tryz.prog, [e147], [], 20, [], []⟩
def F110 : Unit → Option (Unit) := func cx110 Tryz.f110 b110 sh110 out110
def e110 : FE := ⟨110, sh110, out110, F110⟩
theorem ok110 : FEOK Tryz.prog e110 := func_ok (cx := cx110) (fn := Tryz.f110) (c := b110) (all_fe (P := Tryz.prog) (l := [e147]) ⟨ok147, trivial⟩) (by kernel_rfl) (by kernel_rfl) (by kernel_rfl) (by kernel_rfl) (by kernel_rfl) (needs_of (l := []) (by kernel_rfl) trivial)
abbrev sh88 : Shape := ⟨[(0, .one (.ptr 100000 0)), (1, .one (.d (.int .i64)))], [(100000, .box 119 [.nilP, .nilS])]⟩
abbrev out88 : Shape := ⟨[], [(100000, .box 119 [.ptr 100000 0, .own 200000]), (200000, .lst 5 (.int .u8) false)]⟩
def b88 : Code := Tryz.f88.body.getD .skip
def cx88 : Cx := ⟨Tryz.prog, [e110, e111], [], 25, [], []⟩
def F88 : Int × Unit → Option (List Int × Unit) := func cx88 Tryz.f88 b88 sh88 out88
def e88 : FE := ⟨88, sh88, out88, F88⟩
theorem ok88 : FEOK Tryz.prog e88 := func_ok (cx := cx88) (fn := Tryz.f88) (c := b88) (all_fe (P := Tryz.prog) (l := [e110, e111]) ⟨ok110, ok111, trivial⟩) (by kernel_rfl) (by kernel_rfl) (by kernel_rfl) (by kernel_rfl) (by kernel_rfl) (needs_of (l := []) (by kernel_rfl) trivial)
abbrev sh110v1 : Shape := ⟨[(0, .one (.ptr 100000 0))], [(100000, .box 119 [.ptr 100000 0, .own 100001]), (100001, .lst 5 (.int .u8) false)]⟩
abbrev out110v1 : Shape := ⟨[], [(100000, .box 119 [.ptr 100000 0, .own 100001]), (100001, .lst 5 (.int .u8) false)]⟩
def b110v1 : Code := Tryz.f110.body.getD .skip
def cx110v1 : Cx := ⟨Tryz.prog, [], [], 20, [], []⟩
def F110v1 : List Int × Unit → Option (List Int × Unit) := func cx110v1 Tryz.f110 b110v1 sh110v1 out110v1
def e110v1 : FE := ⟨110, sh110v1, out110v1, F110v1⟩
theorem ok110v1 : FEOK Tryz.prog e110v1 := func_ok (cx := cx110v1) (fn := Tryz.f110) (c := b110v1) (all_fe (P := Tryz.prog) (l := []) trivial) (by kernel_rfl) (by kernel_rfl) (by kernel_rfl) (by kernel_rfl) (by kernel_rfl) (needs_of (l := []) (by kernel_rfl) trivial)
abbrev sh89 : Shape := ⟨[(0, .one (.ptr 100000 0)), (1, .one (.d .str))], [(100000, .box 119 [.ptr 100000 0, .own 100001]), (100001, .lst 5 (.int .u8) false)]⟩
abbrev out89 : Shape := ⟨[(0, .one (.d (.int .i64))), (1, .one (.junk))], [(100000, .box 119 [.ptr 100000 0, .own 200000]), (100001, .dead), (200000, .lst 5 (.int .u8) false)]⟩
def b89 : Code := Tryz.f89.body.getD .skip
def cx89 : Cx := ⟨Tryz.prog, [e110v1], [14], 19, [], []⟩
def F89 : ByteArray × List Int × Unit → Option (Int × List Int × Unit) := func cx89 Tryz.f89 b89 sh89 out89
def e89 : FE := ⟨89, sh89, out89, F89⟩
theorem ok89 : FEOK Tryz.prog e89 := func_ok (cx := cx89) (fn := Tryz.f89) (c := b89) (all_fe (P := Tryz.prog) (l := [e110v1]) ⟨ok110v1, trivial⟩) (by kernel_rfl) (by kernel_rfl) (by kernel_rfl) (by kernel_rfl) (by kernel_rfl) (needs_of (l := []) (by kernel_rfl) trivial)
abbrev sh90 : Shape := ⟨[(0, .one (.ptr 100000 0))], [(100000, .box 119 [.ptr 100000 0, .own 100001]), (100001, .lst 5 (.int .u8) false)]⟩
abbrev out90 : Shape := ⟨[(0, .one (.d .str))], [(100000, .box 119 [.ptr 100000 0, .junk]), (100001, .dead)]⟩
def b90 : Code := Tryz.f90.body.getD .skip
def cx90 : Cx := ⟨Tryz.prog, [], [], 14, [], []⟩
def F90 : List Int × Unit → Option (ByteArray × Unit) := func cx90 Tryz.f90 b90 sh90 out90
def e90 : FE := ⟨90, sh90, out90, F90⟩
theorem ok90 : FEOK Tryz.prog e90 := func_ok (cx := cx90) (fn := Tryz.f90) (c := b90) (all_fe (P := Tryz.prog) (l := []) trivial) (by kernel_rfl) (by kernel_rfl) (by kernel_rfl) (by kernel_rfl) (by kernel_rfl) (needs_of (l := []) (by kernel_rfl) trivial)
abbrev sh57 : Shape := ⟨[(0, .one (.d (.list .str))), (1, .one (.d .str))], []⟩
abbrev out57 : Shape := ⟨[(0, .one (.d .str))], []⟩
def b57 : Code := Tryz.f57.body.getD .skip
abbrev sh57_0 : Shape := ⟨[(0, .one (.d (.list .str))), (1, .one (.d .str)), (5, .one (.d (.int .i64))), (39, .one (.d (.list .str))), (40, .one (.d (.int .i64))), (41, .one (.d (.int .i64)))], []⟩
abbrev os57_0 : List (XE × Shape) := [(.ex 1, ⟨[(0, .one (.d (.list .str))), (1, .one (.d .str)), (5, .one (.d (.int .i64)))], []⟩)]
def cx57_0 : Cx := ⟨Tryz.prog, [e88, e89, e90], [], 75, [], []⟩
def B57_0 : List ByteArray × ByteArray × Int × List ByteArray × Int × Int × Unit → Option ((List ByteArray × ByteArray × Int × List ByteArray × Int × Int × Unit) ⊕ List ByteArray × ByteArray × Int × Unit) := round cx57_0 (sub [1, 1, 1, 1, 0, 1, 0, 0] b57) sh57_0 os57_0
def ce57_0 : CE := ⟨sh57_0, os57_0, loop B57_0⟩
theorem okc57_0 : CEOK Tryz.prog 75 (.at (.loop (sub [1, 1, 1, 1, 0, 1, 0, 0] b57))) ce57_0 := round_ok (cx := cx57_0) (fun R => step_sound (all_fe (P := Tryz.prog) (l := [e88, e89, e90]) ⟨ok88, ok89, ok90, trivial⟩) R) (needs_of (l := []) (by kernel_rfl) trivial) sh57_0 os57_0
abbrev sh57_1 : Shape := ⟨[(1, .one (.d .str)), (8, .one (.ptr 200000 0)), (63, .one (.d (.list .str))), (64, .one (.d (.int .i64))), (65, .one (.d (.int .i64)))], [(200000, .box 119 [.ptr 200000 0, .own 200001]), (200001, .lst 5 (.int .u8) false)]⟩
abbrev os57_1 : List (XE × Shape) := [(.ex 3, ⟨[(8, .one (.ptr 200000 0))], [(200000, .box 119 [.ptr 200000 0, .own 200001]), (200001, .lst 5 (.int .u8) false)]⟩)]
def cx57_1 : Cx := ⟨Tryz.prog, [e88, e89, e90], [], 75, [(24, ce57_0)], []⟩
def B57_1 : ByteArray × List ByteArray × Int × Int × List Int × Unit → Option ((ByteArray × List ByteArray × Int × Int × List Int × Unit) ⊕ List Int × Unit) := round cx57_1 (sub [1, 1, 1, 1, 1, 1, 1, 1, 0, 1, 0, 0] b57) sh57_1 os57_1
def ce57_1 : CE := ⟨sh57_1, os57_1, loop B57_1⟩
theorem okc57_1 : CEOK Tryz.prog 75 (.at (.loop (sub [1, 1, 1, 1, 1, 1, 1, 1, 0, 1, 0, 0] b57))) ce57_1 := round_ok (cx := cx57_1) (fun R => step_sound (all_fe (P := Tryz.prog) (l := [e88, e89, e90]) ⟨ok88, ok89, ok90, trivial⟩) R) (needs_of (l := []) (by kernel_rfl) trivial) sh57_1 os57_1
def cx57 : Cx := ⟨Tryz.prog, [e88, e89, e90], [], 75, [(24, ce57_0), (44, ce57_1)], []⟩
def F57 : List ByteArray × ByteArray × Unit → Option (ByteArray × Unit) := func cx57 Tryz.f57 b57 sh57 out57
def e57 : FE := ⟨57, sh57, out57, F57⟩
theorem ok57 : FEOK Tryz.prog e57 := func_ok (cx := cx57) (fn := Tryz.f57) (c := b57) (all_fe (P := Tryz.prog) (l := [e88, e89, e90]) ⟨ok88, ok89, ok90, trivial⟩) (by kernel_rfl) (by kernel_rfl) (by kernel_rfl) (by kernel_rfl) (by kernel_rfl) (needs_of (l := [((.at (.loop (sub [1, 1, 1, 1, 0, 1, 0, 0] b57))), ce57_0), ((.at (.loop (sub [1, 1, 1, 1, 1, 1, 1, 1, 0, 1, 0, 0] b57))), ce57_1)]) (by kernel_rfl) ⟨okc57_0, okc57_1, trivial⟩)
abbrev sh34 : Shape := ⟨[(0, .one (.d (.list r7)))], []⟩
abbrev out34 : Shape := ⟨[(0, .one (.d .str))], []⟩
def b34 : Code := Tryz.f34.body.getD .skip
abbrev sh34_0 : Shape := ⟨[(3, .one (.own 200000)), (10, .one (.d (.list r7))), (11, .one (.d (.int .i64))), (12, .one (.d (.int .i64)))], [(200000, .lst 9 .str true)]⟩
abbrev os34_0 : List (XE × Shape) := [(.ex 0, ⟨[(3, .one (.own 200000))], [(200000, .lst 9 .str true)]⟩)]
def cx34_0 : Cx := ⟨Tryz.prog, [e56, e57], [], 53, [], []⟩
def B34_0 : List R7 × Int × Int × List ByteArray × Unit → Option ((List R7 × Int × Int × List ByteArray × Unit) ⊕ List ByteArray × Unit) := round cx34_0 (sub [1, 1, 1, 0, 1, 0, 0] b34) sh34_0 os34_0
def ce34_0 : CE := ⟨sh34_0, os34_0, loop B34_0⟩
theorem okc34_0 : CEOK Tryz.prog 53 (.at (.loop (sub [1, 1, 1, 0, 1, 0, 0] b34))) ce34_0 := round_ok (cx := cx34_0) (fun R => step_sound (all_fe (P := Tryz.prog) (l := [e56, e57]) ⟨ok56, ok57, trivial⟩) R) (needs_of (l := []) (by kernel_rfl) trivial) sh34_0 os34_0
def cx34 : Cx := ⟨Tryz.prog, [e56, e57], [], 53, [(10, ce34_0)], []⟩
def F34 : List R7 × Unit → Option (ByteArray × Unit) := func cx34 Tryz.f34 b34 sh34 out34
def e34 : FE := ⟨34, sh34, out34, F34⟩
theorem ok34 : FEOK Tryz.prog e34 := func_ok (cx := cx34) (fn := Tryz.f34) (c := b34) (all_fe (P := Tryz.prog) (l := [e56, e57]) ⟨ok56, ok57, trivial⟩) (by kernel_rfl) (by kernel_rfl) (by kernel_rfl) (by kernel_rfl) (by kernel_rfl) (needs_of (l := [((.at (.loop (sub [1, 1, 1, 0, 1, 0, 0] b34))), ce34_0)]) (by kernel_rfl) ⟨okc34_0, trivial⟩)
abbrev sh62 : Shape := ⟨[(0, .one (.d (.int .u8)))], []⟩
abbrev out62 : Shape := ⟨[(0, .one (.d .bool))], []⟩
def b62 : Code := Tryz.f62.body.getD .skip
def cx62 : Cx := ⟨Tryz.prog, [], [], 9, [], []⟩
def F62 : Int × Unit → Option (Bool × Unit) := func cx62 Tryz.f62 b62 sh62 out62
def e62 : FE := ⟨62, sh62, out62, F62⟩
theorem ok62 : FEOK Tryz.prog e62 := func_ok (cx := cx62) (fn := Tryz.f62) (c := b62) (all_fe (P := Tryz.prog) (l := []) trivial) (by kernel_rfl) (by kernel_rfl) (by kernel_rfl) (by kernel_rfl) (by kernel_rfl) (needs_of (l := []) (by kernel_rfl) trivial)
abbrev sh63 : Shape := ⟨[(0, .one (.d .str))], []⟩
abbrev out63 : Shape := ⟨[(0, .one (.d (.int .i64))), (1, .one (.d .bool))], []⟩
def b63 : Code := Tryz.f63.body.getD .skip
abbrev sh63_0 : Shape := ⟨[(0, .one (.d .str)), (4, .one (.d (.int .i64))), (5, .one (.d (.int .i64)))], []⟩
abbrev os63_0 : List (XE × Shape) := [(.ret, ⟨[(2, .one (.d (.int .i64))), (3, .one (.d .bool))], []⟩), (.ex 0, ⟨[(4, .one (.d (.int .i64)))], []⟩)]
def cx63_0 : Cx := ⟨Tryz.prog, [], [], 49, [], []⟩
def B63_0 : ByteArray × Int × Int × Unit → Option ((ByteArray × Int × Int × Unit) ⊕ (Int × Bool × Unit) ⊕ (Int × Unit)) := round cx63_0 (sub [1, 1, 1, 0, 1, 0, 0] b63) sh63_0 os63_0
def ce63_0 : CE := ⟨sh63_0, os63_0, loop B63_0⟩
theorem okc63_0 : CEOK Tryz.prog 49 (.at (.loop (sub [1, 1, 1, 0, 1, 0, 0] b63))) ce63_0 := round_ok (cx := cx63_0) (fun R => step_sound (all_fe (P := Tryz.prog) (l := []) trivial) R) (needs_of (l := []) (by kernel_rfl) trivial) sh63_0 os63_0
def cx63 : Cx := ⟨Tryz.prog, [], [], 49, [(10, ce63_0)], []⟩
def F63 : ByteArray × Unit → Option (Int × Bool × Unit) := func cx63 Tryz.f63 b63 sh63 out63
def e63 : FE := ⟨63, sh63, out63, F63⟩
theorem ok63 : FEOK Tryz.prog e63 := func_ok (cx := cx63) (fn := Tryz.f63) (c := b63) (all_fe (P := Tryz.prog) (l := []) trivial) (by kernel_rfl) (by kernel_rfl) (by kernel_rfl) (by kernel_rfl) (by kernel_rfl) (needs_of (l := [((.at (.loop (sub [1, 1, 1, 0, 1, 0, 0] b63))), ce63_0)]) (by kernel_rfl) ⟨okc63_0, trivial⟩)
abbrev sh47 : Shape := ⟨[(0, .one (.d .str))], []⟩
abbrev out47 : Shape := ⟨[(0, .one (.d (.list .str)))], []⟩
def b47 : Code := Tryz.f47.body.getD .skip
abbrev sh47_0 : Shape := ⟨[(0, .one (.d .str)), (3, .one (.own 200000)), (4, .one (.d (.int .i64))), (5, .one (.d (.int .i64)))], [(200000, .lst 9 .str true)]⟩
abbrev os47_0 : List (XE × Shape) := [(.ex 0, ⟨[(3, .one (.own 200000))], [(200000, .lst 9 .str true)]⟩)]
def cx47_0 : Cx := ⟨Tryz.prog, [], [], 32, [], []⟩
def B47_0 : ByteArray × Int × Int × List ByteArray × Unit → Option ((ByteArray × Int × Int × List ByteArray × Unit) ⊕ List ByteArray × Unit) := round cx47_0 (sub [1, 1, 1, 0, 1, 0, 0] b47) sh47_0 os47_0
def ce47_0 : CE := ⟨sh47_0, os47_0, loop B47_0⟩
theorem okc47_0 : CEOK Tryz.prog 32 (.at (.loop (sub [1, 1, 1, 0, 1, 0, 0] b47))) ce47_0 := round_ok (cx := cx47_0) (fun R => step_sound (all_fe (P := Tryz.prog) (l := []) trivial) R) (needs_of (l := []) (by kernel_rfl) trivial) sh47_0 os47_0
def cx47 : Cx := ⟨Tryz.prog, [], [], 32, [(8, ce47_0)], []⟩
def F47 : ByteArray × Unit → Option (List ByteArray × Unit) := func cx47 Tryz.f47 b47 sh47 out47
def e47 : FE := ⟨47, sh47, out47, F47⟩
theorem ok47 : FEOK Tryz.prog e47 := func_ok (cx := cx47) (fn := Tryz.f47) (c := b47) (all_fe (P := Tryz.prog) (l := []) trivial) (by kernel_rfl) (by kernel_rfl) (by kernel_rfl) (by kernel_rfl) (by kernel_rfl) (needs_of (l := [((.at (.loop (sub [1, 1, 1, 0, 1, 0, 0] b47))), ce47_0)]) (by kernel_rfl) ⟨okc47_0, trivial⟩)
abbrev sh112 : Shape := ⟨[(0, .one (.d (.int .u8)))], []⟩
abbrev out112 : Shape := ⟨[(0, .one (.d .bool))], []⟩
def b112 : Code := Tryz.f112.body.getD .skip
def cx112 : Cx := ⟨Tryz.prog, [], [], 21, [], []⟩
def F112 : Int × Unit → Option (Bool × Unit) := func cx112 Tryz.f112 b112 sh112 out112
def e112 : FE := ⟨112, sh112, out112, F112⟩
theorem ok112 : FEOK Tryz.prog e112 := func_ok (cx := cx112) (fn := Tryz.f112) (c := b112) (all_fe (P := Tryz.prog) (l := []) trivial) (by kernel_rfl) (by kernel_rfl) (by kernel_rfl) (by kernel_rfl) (by kernel_rfl) (needs_of (l := []) (by kernel_rfl) trivial)
abbrev sh75 : Shape := ⟨[(0, .one (.d .str))], []⟩
abbrev out75 : Shape := ⟨[(0, .one (.d .bool))], []⟩
def b75 : Code := Tryz.f75.body.getD .skip
abbrev sh75_0 : Shape := ⟨[(0, .one (.d .str)), (3, .one (.d (.int .i64)))], []⟩
abbrev os75_0 : List (XE × Shape) := [(.ret, ⟨[(2, .one (.d .bool))], []⟩), (.ex 0, ⟨[(0, .one (.d .str))], []⟩)]
def cx75_0 : Cx := ⟨Tryz.prog, [e62], [], 17, [], []⟩
def B75_0 : ByteArray × Int × Unit → Option ((ByteArray × Int × Unit) ⊕ (Bool × Unit) ⊕ (ByteArray × Unit)) := round cx75_0 (sub [1, 0, 1, 0, 0] b75) sh75_0 os75_0
def ce75_0 : CE := ⟨sh75_0, os75_0, loop B75_0⟩
theorem okc75_0 : CEOK Tryz.prog 17 (.at (.loop (sub [1, 0, 1, 0, 0] b75))) ce75_0 := round_ok (cx := cx75_0) (fun R => step_sound (all_fe (P := Tryz.prog) (l := [e62]) ⟨ok62, trivial⟩) R) (needs_of (l := []) (by kernel_rfl) trivial) sh75_0 os75_0
def cx75 : Cx := ⟨Tryz.prog, [e62], [], 17, [(4, ce75_0)], []⟩
def F75 : ByteArray × Unit → Option (Bool × Unit) := func cx75 Tryz.f75 b75 sh75 out75
def e75 : FE := ⟨75, sh75, out75, F75⟩
theorem ok75 : FEOK Tryz.prog e75 := func_ok (cx := cx75) (fn := Tryz.f75) (c := b75) (all_fe (P := Tryz.prog) (l := [e62]) ⟨ok62, trivial⟩) (by kernel_rfl) (by kernel_rfl) (by kernel_rfl) (by kernel_rfl) (by kernel_rfl) (needs_of (l := [((.at (.loop (sub [1, 0, 1, 0, 0] b75))), ce75_0)]) (by kernel_rfl) ⟨okc75_0, trivial⟩)
abbrev sh91 : Shape := ⟨[(0, .one (.d .str))], []⟩
abbrev out91 : Shape := ⟨[(0, .one (.d .bool))], []⟩
def b91 : Code := Tryz.f91.body.getD .skip
abbrev sh91_0 : Shape := ⟨[(0, .one (.d .str)), (3, .one (.d (.int .i64)))], []⟩
abbrev os91_0 : List (XE × Shape) := [(.ret, ⟨[(2, .one (.d .bool))], []⟩), (.ex 0, ⟨[], []⟩)]
def cx91_0 : Cx := ⟨Tryz.prog, [e62, e75, e112], [], 38, [], []⟩
def B91_0 : ByteArray × Int × Unit → Option ((ByteArray × Int × Unit) ⊕ (Bool × Unit) ⊕ (Unit)) := round cx91_0 (sub [1, 1, 0, 1, 0, 0] b91) sh91_0 os91_0
def ce91_0 : CE := ⟨sh91_0, os91_0, loop B91_0⟩
theorem okc91_0 : CEOK Tryz.prog 38 (.at (.loop (sub [1, 1, 0, 1, 0, 0] b91))) ce91_0 := round_ok (cx := cx91_0) (fun R => step_sound (all_fe (P := Tryz.prog) (l := [e62, e75, e112]) ⟨ok62, ok75, ok112, trivial⟩) R) (needs_of (l := []) (by kernel_rfl) trivial) sh91_0 os91_0
def cx91 : Cx := ⟨Tryz.prog, [e62, e75, e112], [], 38, [(8, ce91_0)], []⟩
def F91 : ByteArray × Unit → Option (Bool × Unit) := func cx91 Tryz.f91 b91 sh91 out91
def e91 : FE := ⟨91, sh91, out91, F91⟩
theorem ok91 : FEOK Tryz.prog e91 := func_ok (cx := cx91) (fn := Tryz.f91) (c := b91) (all_fe (P := Tryz.prog) (l := [e62, e75, e112]) ⟨ok62, ok75, ok112, trivial⟩) (by kernel_rfl) (by kernel_rfl) (by kernel_rfl) (by kernel_rfl) (by kernel_rfl) (needs_of (l := [((.at (.loop (sub [1, 1, 0, 1, 0, 0] b91))), ce91_0)]) (by kernel_rfl) ⟨okc91_0, trivial⟩)
abbrev sh64 : Shape := ⟨[(0, .row [.d (.int .i64), .d (.int .i64), .d (.int .i64), .d .str])], []⟩
abbrev out64 : Shape := ⟨[(0, .one (.d .bool))], []⟩
def b64 : Code := Tryz.f64.body.getD .skip
abbrev sh64_0 : Shape := ⟨[(3, .one (.d (.list .str))), (4, .one (.d (.int .i64)))], []⟩
abbrev os64_0 : List (XE × Shape) := [(.ret, ⟨[(2, .one (.d .bool))], []⟩), (.ex 0, ⟨[], []⟩)]
def cx64_0 : Cx := ⟨Tryz.prog, [e47, e91], [], 52, [], []⟩
def B64_0 : List ByteArray × Int × Unit → Option ((List ByteArray × Int × Unit) ⊕ (Bool × Unit) ⊕ (Unit)) := round cx64_0 (sub [1, 1, 1, 1, 0, 1, 0, 0] b64) sh64_0 os64_0
def ce64_0 : CE := ⟨sh64_0, os64_0, loop B64_0⟩
theorem okc64_0 : CEOK Tryz.prog 52 (.at (.loop (sub [1, 1, 1, 1, 0, 1, 0, 0] b64))) ce64_0 := round_ok (cx := cx64_0) (fun R => step_sound (all_fe (P := Tryz.prog) (l := [e47, e91]) ⟨ok47, ok91, trivial⟩) R) (needs_of (l := []) (by kernel_rfl) trivial) sh64_0 os64_0
def cx64 : Cx := ⟨Tryz.prog, [e47, e91], [], 52, [(14, ce64_0)], []⟩
def F64 : Int × Int × Int × ByteArray × Unit → Option (Bool × Unit) := func cx64 Tryz.f64 b64 sh64 out64
def e64 : FE := ⟨64, sh64, out64, F64⟩
theorem ok64 : FEOK Tryz.prog e64 := func_ok (cx := cx64) (fn := Tryz.f64) (c := b64) (all_fe (P := Tryz.prog) (l := [e47, e91]) ⟨ok47, ok91, trivial⟩) (by kernel_rfl) (by kernel_rfl) (by kernel_rfl) (by kernel_rfl) (by kernel_rfl) (needs_of (l := [((.at (.loop (sub [1, 1, 1, 1, 0, 1, 0, 0] b64))), ce64_0)]) (by kernel_rfl) ⟨okc64_0, trivial⟩)
abbrev sh37 : Shape := ⟨[(0, .one (.d .str))], []⟩
abbrev out37 : Shape := ⟨[(0, .row [.d (.int .i64), .d (.int .i64), .d (.int .i64), .d .str]), (1, .one (.d .bool))], []⟩
def b37 : Code := Tryz.f37.body.getD .skip
abbrev sh37_0 : Shape := ⟨[(0, .one (.d .str)), (2, .one (.ptr 200000 0)), (4, .one (.ptr 200001 0)), (5, .one (.d (.int .i64))), (6, .one (.d (.int .i64))), (7, .one (.d (.int .i64))), (20, .one (.d .str)), (21, .one (.d (.int .i64))), (22, .one (.d (.int .u8))), (23, .one (.d (.int .i64))), (24, .one (.d (.int .u8))), (25, .one (.d .bool))], [(200000, .box 34 [.d (.int .i64), .d (.int .i64), .d (.int .i64), .d .str]), (200001, .box 92 [.d (.int .i64), .d (.int .i64), .d (.int .i64)])]⟩
abbrev os37_0 : List (XE × Shape) := [(.ex 2, ⟨[(0, .one (.d .str)), (2, .one (.ptr 200000 0)), (4, .one (.ptr 200001 0)), (5, .one (.d (.int .i64))), (6, .one (.d (.int .i64))), (7, .one (.d (.int .i64))), (20, .one (.d .str)), (21, .one (.d (.int .i64))), (22, .one (.d (.int .u8))), (23, .one (.d (.int .i64))), (24, .one (.d (.int .u8))), (25, .one (.d .bool))], [(200000, .box 34 [.d (.int .i64), .d (.int .i64), .d (.int .i64), .d .str]), (200001, .box 92 [.d (.int .i64), .d (.int .i64), .d (.int .i64)])]⟩)]
def cx37_0 : Cx := ⟨Tryz.prog, [e62, e63, e64], [], 90, [], []⟩
def B37_0 : ByteArray × Int × Int × Int × ByteArray × Int × Int × Int × Int × Bool × Int × Int × Int × ByteArray × Int × Int × Int × Unit → Option ((ByteArray × Int × Int × Int × ByteArray × Int × Int × Int × Int × Bool × Int × Int × Int × ByteArray × Int × Int × Int × Unit) ⊕ ByteArray × Int × Int × Int × ByteArray × Int × Int × Int × Int × Bool × Int × Int × Int × ByteArray × Int × Int × Int × Unit) := round cx37_0 (sub [1, 1, 1, 0, 1, 0, 0, 1, 0, 0, 1, 1, 1, 0, 0, 0] b37) sh37_0 os37_0
def ce37_0 : CE := ⟨sh37_0, os37_0, loop B37_0⟩
theorem okc37_0 : CEOK Tryz.prog 90 (.at (.loop (sub [1, 1, 1, 0, 1, 0, 0, 1, 0, 0, 1, 1, 1, 0, 0, 0] b37))) ce37_0 := round_ok (cx := cx37_0) (fun R => step_sound (all_fe (P := Tryz.prog) (l := [e62, e63, e64]) ⟨ok62, ok63, ok64, trivial⟩) R) (needs_of (l := []) (by kernel_rfl) trivial) sh37_0 os37_0
abbrev sh37_1 : Shape := ⟨[(0, .one (.d .str)), (2, .one (.ptr 200000 0)), (4, .one (.ptr 200001 0)), (5, .one (.d (.int .i64))), (6, .one (.d (.int .i64)))], [(200000, .box 34 [.d (.int .i64), .d (.int .i64), .d (.int .i64), .d .str]), (200001, .box 92 [.d (.int .i64), .d (.int .i64), .d (.int .i64)])]⟩
abbrev os37_1 : List (XE × Shape) := [(.ret, ⟨[(2, .one (.ptr 200000 0)), (3, .one (.d .bool))], [(200000, .box 34 [.d (.int .i64), .d (.int .i64), .d (.int .i64), .d .str])]⟩), (.ex 0, ⟨[(0, .one (.d .str)), (2, .one (.ptr 200000 0)), (4, .one (.ptr 200001 0)), (5, .one (.d (.int .i64)))], [(200000, .box 34 [.d (.int .i64), .d (.int .i64), .d (.int .i64), .d .str]), (200001, .box 92 [.d (.int .i64), .d (.int .i64), .d (.int .i64)])]⟩)]
def cx37_1 : Cx := ⟨Tryz.prog, [e62, e63, e64], [], 90, [(20, ce37_0)], []⟩
def B37_1 : ByteArray × Int × Int × Int × Int × Int × ByteArray × Int × Int × Int × Unit → Option ((ByteArray × Int × Int × Int × Int × Int × ByteArray × Int × Int × Int × Unit) ⊕ (Bool × Int × Int × Int × ByteArray × Unit) ⊕ (ByteArray × Int × Int × Int × Int × ByteArray × Int × Int × Int × Unit)) := round cx37_1 (sub [1, 1, 1, 0, 1, 0, 0] b37) sh37_1 os37_1
def ce37_1 : CE := ⟨sh37_1, os37_1, loop B37_1⟩
theorem okc37_1 : CEOK Tryz.prog 90 (.at (.loop (sub [1, 1, 1, 0, 1, 0, 0] b37))) ce37_1 := round_ok (cx := cx37_1) (fun R => step_sound (all_fe (P := Tryz.prog) (l := [e62, e63, e64]) ⟨ok62, ok63, ok64, trivial⟩) R) (needs_of (l := [((.at (.loop (sub [1, 1, 1, 0, 1, 0, 0, 1, 0, 0, 1, 1, 1, 0, 0, 0] b37))), ce37_0)]) (by kernel_rfl) ⟨okc37_0, trivial⟩) sh37_1 os37_1
def cx37 : Cx := ⟨Tryz.prog, [e62, e63, e64], [], 90, [(20, ce37_0), (8, ce37_1)], []⟩
def F37 : ByteArray × Unit → Option (Int × Int × Int × ByteArray × Bool × Unit) := func cx37 Tryz.f37 b37 sh37 out37
def e37 : FE := ⟨37, sh37, out37, F37⟩
theorem ok37 : FEOK Tryz.prog e37 := func_ok (cx := cx37) (fn := Tryz.f37) (c := b37) (all_fe (P := Tryz.prog) (l := [e62, e63, e64]) ⟨ok62, ok63, ok64, trivial⟩) (by kernel_rfl) (by kernel_rfl) (by kernel_rfl) (by kernel_rfl) (by kernel_rfl) (needs_of (l := [((.at (.loop (sub [1, 1, 1, 0, 1, 0, 0] b37))), ce37_1)]) (by kernel_rfl) ⟨okc37_1, trivial⟩)
abbrev sh46 : Shape := ⟨[(0, .one (.d (.int .i64))), (1, .one (.d (.int .i64)))], []⟩
abbrev out46 : Shape := ⟨[(0, .one (.d (.int .i64)))], []⟩
def b46 : Code := Tryz.f46.body.getD .skip
def cx46 : Cx := ⟨Tryz.prog, [], [], 11, [], []⟩
def F46 : Int × Int × Unit → Option (Int × Unit) := func cx46 Tryz.f46 b46 sh46 out46
def e46 : FE := ⟨46, sh46, out46, F46⟩
theorem ok46 : FEOK Tryz.prog e46 := func_ok (cx := cx46) (fn := Tryz.f46) (c := b46) (all_fe (P := Tryz.prog) (l := []) trivial) (by kernel_rfl) (by kernel_rfl) (by kernel_rfl) (by kernel_rfl) (by kernel_rfl) (needs_of (l := []) (by kernel_rfl) trivial)
abbrev sh48 : Shape := ⟨[(0, .one (.d .str)), (1, .one (.d .str))], []⟩
abbrev out48 : Shape := ⟨[(0, .one (.d (.int .i64)))], []⟩
def b48 : Code := Tryz.f48.body.getD .skip
def cx48 : Cx := ⟨Tryz.prog, [e46, e75], [], 37, [], []⟩
def F48 : ByteArray × ByteArray × Unit → Option (Int × Unit) := func cx48 Tryz.f48 b48 sh48 out48
def e48 : FE := ⟨48, sh48, out48, F48⟩
theorem ok48 : FEOK Tryz.prog e48 := func_ok (cx := cx48) (fn := Tryz.f48) (c := b48) (all_fe (P := Tryz.prog) (l := [e46, e75]) ⟨ok46, ok75, trivial⟩) (by kernel_rfl) (by kernel_rfl) (by kernel_rfl) (by kernel_rfl) (by kernel_rfl) (needs_of (l := []) (by kernel_rfl) trivial)
abbrev sh26 : Shape := ⟨[(0, .row [.d (.int .i64), .d (.int .i64), .d (.int .i64), .d .str]), (1, .row [.d (.int .i64), .d (.int .i64), .d (.int .i64), .d .str])], []⟩
abbrev out26 : Shape := ⟨[(0, .one (.d (.int .i64)))], []⟩
def b26 : Code := Tryz.f26.body.getD .skip
abbrev sh26_0 : Shape := ⟨[(2, .one (.ptr 200000 0)), (3, .one (.ptr 200001 0)), (5, .one (.own 200002)), (6, .one (.d (.int .i64)))], [(200000, .box 34 [.d (.int .i64), .d (.int .i64), .d (.int .i64), .d .str]), (200001, .box 34 [.d (.int .i64), .d (.int .i64), .d (.int .i64), .d .str]), (200002, .lst 3 (.int .i64) true)]⟩
abbrev os26_0 : List (XE × Shape) := [(.ret, ⟨[(4, .one (.d (.int .i64)))], []⟩), (.ex 0, ⟨[(2, .one (.ptr 200000 0)), (3, .one (.ptr 200001 0))], [(200000, .box 34 [.d (.int .i64), .d (.int .i64), .d (.int .i64), .d .str]), (200001, .box 34 [.d (.int .i64), .d (.int .i64), .d (.int .i64), .d .str])]⟩)]
def cx26_0 : Cx := ⟨Tryz.prog, [e46, e47, e48], [], 99, [], []⟩
def B26_0 : Int × Int × Int × Int × ByteArray × Int × Int × Int × ByteArray × List Int × Unit → Option ((Int × Int × Int × Int × ByteArray × Int × Int × Int × ByteArray × List Int × Unit) ⊕ (Int × Unit) ⊕ (Int × Int × Int × ByteArray × Int × Int × Int × ByteArray × Unit)) := round cx26_0 (sub [1, 1, 0, 1, 0, 0] b26) sh26_0 os26_0
def ce26_0 : CE := ⟨sh26_0, os26_0, loop B26_0⟩
theorem okc26_0 : CEOK Tryz.prog 99 (.at (.loop (sub [1, 1, 0, 1, 0, 0] b26))) ce26_0 := round_ok (cx := cx26_0) (fun R => step_sound (all_fe (P := Tryz.prog) (l := [e46, e47, e48]) ⟨ok46, ok47, ok48, trivial⟩) R) (needs_of (l := []) (by kernel_rfl) trivial) sh26_0 os26_0
abbrev sh26_1 : Shape := ⟨[(7, .one (.d (.list .str))), (8, .one (.d (.list .str))), (9, .one (.d (.int .i64)))], []⟩
abbrev os26_1 : List (XE × Shape) := [(.ret, ⟨[(4, .one (.d (.int .i64)))], []⟩), (.ex 2, ⟨[(7, .one (.d (.list .str))), (8, .one (.d (.list .str)))], []⟩)]
def cx26_1 : Cx := ⟨Tryz.prog, [e46, e47, e48], [], 99, [(6, ce26_0)], []⟩
def B26_1 : List ByteArray × List ByteArray × Int × Unit → Option ((List ByteArray × List ByteArray × Int × Unit) ⊕ (Int × Unit) ⊕ (List ByteArray × List ByteArray × Unit)) := round cx26_1 (sub [1, 1, 1, 1, 1, 0, 1, 0, 0] b26) sh26_1 os26_1
def ce26_1 : CE := ⟨sh26_1, os26_1, loop B26_1⟩
theorem okc26_1 : CEOK Tryz.prog 99 (.at (.loop (sub [1, 1, 1, 1, 1, 0, 1, 0, 0] b26))) ce26_1 := round_ok (cx := cx26_1) (fun R => step_sound (all_fe (P := Tryz.prog) (l := [e46, e47, e48]) ⟨ok46, ok47, ok48, trivial⟩) R) (needs_of (l := []) (by kernel_rfl) trivial) sh26_1 os26_1
def cx26 : Cx := ⟨Tryz.prog, [e46, e47, e48], [], 99, [(6, ce26_0), (22, ce26_1)], []⟩
def F26 : Int × Int × Int × ByteArray × Int × Int × Int × ByteArray × Unit → Option (Int × Unit) := func cx26 Tryz.f26 b26 sh26 out26
def e26 : FE := ⟨26, sh26, out26, F26⟩
theorem ok26 : FEOK Tryz.prog e26 := func_ok (cx := cx26) (fn := Tryz.f26) (c := b26) (all_fe (P := Tryz.prog) (l := [e46, e47, e48]) ⟨ok46, ok47, ok48, trivial⟩) (by kernel_rfl) (by kernel_rfl) (by kernel_rfl) (by kernel_rfl) (by kernel_rfl) (needs_of (l := [((.at (.loop (sub [1, 1, 0, 1, 0, 0] b26))), ce26_0), ((.at (.loop (sub [1, 1, 1, 1, 1, 0, 1, 0, 0] b26))), ce26_1)]) (by kernel_rfl) ⟨okc26_0, okc26_1, trivial⟩)
abbrev sh58 : Shape := ⟨[(0, .row [.d (.int .i64), .d (.int .i64), .d (.int .i64), .d .str, .d (.int .i64), .d (.int .i64), .d (.int .i64), .d .str, .d .bool, .d .bool, .d .bool])], []⟩
abbrev out58 : Shape := ⟨[(0, .one (.d .bool))], []⟩
def b58 : Code := Tryz.f58.body.getD .skip
def cx58 : Cx := ⟨Tryz.prog, [e26], [], 29, [], []⟩
def F58 : Int × Int × Int × ByteArray × Int × Int × Int × ByteArray × Bool × Bool × Bool × Unit → Option (Bool × Unit) := func cx58 Tryz.f58 b58 sh58 out58
def e58 : FE := ⟨58, sh58, out58, F58⟩
theorem ok58 : FEOK Tryz.prog e58 := func_ok (cx := cx58) (fn := Tryz.f58) (c := b58) (all_fe (P := Tryz.prog) (l := [e26]) ⟨ok26, trivial⟩) (by kernel_rfl) (by kernel_rfl) (by kernel_rfl) (by kernel_rfl) (by kernel_rfl) (needs_of (l := []) (by kernel_rfl) trivial)
abbrev sh59 : Shape := ⟨[(0, .row [.d (.int .i64), .d (.int .i64), .d (.int .i64), .d .str, .d (.int .i64), .d (.int .i64), .d (.int .i64), .d .str, .d .bool, .d .bool, .d .bool]), (1, .row [.d (.int .i64), .d (.int .i64), .d (.int .i64), .d .str, .d (.int .i64), .d (.int .i64), .d (.int .i64), .d .str, .d .bool, .d .bool, .d .bool])], []⟩
abbrev out59 : Shape := ⟨[(0, .one (.d .bool))], []⟩
def b59 : Code := Tryz.f59.body.getD .skip
def cx59 : Cx := ⟨Tryz.prog, [e26], [], 26, [], []⟩
def F59 : Int × Int × Int × ByteArray × Int × Int × Int × ByteArray × Bool × Bool × Bool × Int × Int × Int × ByteArray × Int × Int × Int × ByteArray × Bool × Bool × Bool × Unit → Option (Bool × Unit) := func cx59 Tryz.f59 b59 sh59 out59
def e59 : FE := ⟨59, sh59, out59, F59⟩
theorem ok59 : FEOK Tryz.prog e59 := func_ok (cx := cx59) (fn := Tryz.f59) (c := b59) (all_fe (P := Tryz.prog) (l := [e26]) ⟨ok26, trivial⟩) (by kernel_rfl) (by kernel_rfl) (by kernel_rfl) (by kernel_rfl) (by kernel_rfl) (needs_of (l := []) (by kernel_rfl) trivial)
abbrev sh60 : Shape := ⟨[(0, .row [.d (.int .i64), .d (.int .i64), .d (.int .i64), .d .str, .d (.int .i64), .d (.int .i64), .d (.int .i64), .d .str, .d .bool, .d .bool, .d .bool]), (1, .row [.d (.int .i64), .d (.int .i64), .d (.int .i64), .d .str, .d (.int .i64), .d (.int .i64), .d (.int .i64), .d .str, .d .bool, .d .bool, .d .bool])], []⟩
abbrev out60 : Shape := ⟨[(0, .one (.d .bool))], []⟩
def b60 : Code := Tryz.f60.body.getD .skip
def cx60 : Cx := ⟨Tryz.prog, [e26], [], 28, [], []⟩
def F60 : Int × Int × Int × ByteArray × Int × Int × Int × ByteArray × Bool × Bool × Bool × Int × Int × Int × ByteArray × Int × Int × Int × ByteArray × Bool × Bool × Bool × Unit → Option (Bool × Unit) := func cx60 Tryz.f60 b60 sh60 out60
def e60 : FE := ⟨60, sh60, out60, F60⟩
theorem ok60 : FEOK Tryz.prog e60 := func_ok (cx := cx60) (fn := Tryz.f60) (c := b60) (all_fe (P := Tryz.prog) (l := [e26]) ⟨ok26, trivial⟩) (by kernel_rfl) (by kernel_rfl) (by kernel_rfl) (by kernel_rfl) (by kernel_rfl) (needs_of (l := []) (by kernel_rfl) trivial)
abbrev sh61 : Shape := ⟨[(0, .row [.d (.int .i64), .d (.int .i64), .d (.int .i64), .d .str, .d (.int .i64), .d (.int .i64), .d (.int .i64), .d .str, .d .bool, .d .bool, .d .bool]), (1, .row [.d (.int .i64), .d (.int .i64), .d (.int .i64), .d .str, .d (.int .i64), .d (.int .i64), .d (.int .i64), .d .str, .d .bool, .d .bool, .d .bool])], []⟩
abbrev out61 : Shape := ⟨[(0, .one (.d .bool))], []⟩
def b61 : Code := Tryz.f61.body.getD .skip
def cx61 : Cx := ⟨Tryz.prog, [e26], [], 39, [], []⟩
def F61 : Int × Int × Int × ByteArray × Int × Int × Int × ByteArray × Bool × Bool × Bool × Int × Int × Int × ByteArray × Int × Int × Int × ByteArray × Bool × Bool × Bool × Unit → Option (Bool × Unit) := func cx61 Tryz.f61 b61 sh61 out61
def e61 : FE := ⟨61, sh61, out61, F61⟩
theorem ok61 : FEOK Tryz.prog e61 := func_ok (cx := cx61) (fn := Tryz.f61) (c := b61) (all_fe (P := Tryz.prog) (l := [e26]) ⟨ok26, trivial⟩) (by kernel_rfl) (by kernel_rfl) (by kernel_rfl) (by kernel_rfl) (by kernel_rfl) (needs_of (l := []) (by kernel_rfl) trivial)
abbrev sh36 : Shape := ⟨[(0, .one (.d (.list r7)))], []⟩
abbrev out36 : Shape := ⟨[(0, .one (.d (.list r7)))], []⟩
def b36 : Code := Tryz.f36.body.getD .skip
abbrev sh36_0 : Shape := ⟨[(0, .one (.d (.list r7))), (3, .one (.own 200000)), (4, .one (.nilS)), (5, .one (.d (.int .i64))), (6, .one (.ptr 200001 0)), (7, .one (.d (.int .i64)))], [(200000, .lst 57 r7 true), (200001, .box 57 [.d (.int .i64), .d (.int .i64), .d (.int .i64), .d .str, .d (.int .i64), .d (.int .i64), .d (.int .i64), .d .str, .d .bool, .d .bool, .d .bool])]⟩
abbrev os36_0 : List (XE × Shape) := [(.ex 2, ⟨[(0, .one (.d (.list r7))), (3, .one (.own 200000)), (4, .one (.nilS)), (5, .one (.d (.int .i64))), (6, .one (.ptr 200001 0)), (7, .one (.d (.int .i64)))], [(200000, .lst 57 r7 true), (200001, .box 57 [.d (.int .i64), .d (.int .i64), .d (.int .i64), .d .str, .d (.int .i64), .d (.int .i64), .d (.int .i64), .d .str, .d .bool, .d .bool, .d .bool])]⟩)]
def cx36_0 : Cx := ⟨Tryz.prog, [e58, e59, e60, e61], [81, 82], 120, [], []⟩
def B36_0 : List R7 × Int × Int × List R7 × Int × Int × Int × ByteArray × Int × Int × Int × ByteArray × Bool × Bool × Bool × Unit → Option ((List R7 × Int × Int × List R7 × Int × Int × Int × ByteArray × Int × Int × Int × ByteArray × Bool × Bool × Bool × Unit) ⊕ List R7 × Int × Int × List R7 × Int × Int × Int × ByteArray × Int × Int × Int × ByteArray × Bool × Bool × Bool × Unit) := round cx36_0 (sub [1, 1, 0, 1, 0, 0, 1, 0, 0, 1, 1, 1, 1, 0, 0, 0] b36) sh36_0 os36_0
def ce36_0 : CE := ⟨sh36_0, os36_0, loop B36_0⟩
theorem okc36_0 : CEOK Tryz.prog 120 (.at (.loop (sub [1, 1, 0, 1, 0, 0, 1, 0, 0, 1, 1, 1, 1, 0, 0, 0] b36))) ce36_0 := round_ok (cx := cx36_0) (fun R => step_sound (all_fe (P := Tryz.prog) (l := [e58, e59, e60, e61]) ⟨ok58, ok59, ok60, ok61, trivial⟩) R) (needs_of (l := []) (by kernel_rfl) trivial) sh36_0 os36_0
abbrev sh36_1 : Shape := ⟨[(0, .one (.d (.list r7))), (3, .one (.own 200000)), (4, .one (.nilS)), (5, .one (.d (.int .i64)))], [(200000, .lst 57 r7 true)]⟩
abbrev os36_1 : List (XE × Shape) := [(.ex 0, ⟨[(3, .one (.own 200000)), (4, .one (.nilS))], [(200000, .lst 57 r7 true)]⟩)]
def cx36_1 : Cx := ⟨Tryz.prog, [e58, e59, e60, e61], [81, 82], 120, [(20, ce36_0)], []⟩
def B36_1 : List R7 × Int × List R7 × Unit → Option ((List R7 × Int × List R7 × Unit) ⊕ List R7 × Unit) := round cx36_1 (sub [1, 1, 0, 1, 0, 0] b36) sh36_1 os36_1
def ce36_1 : CE := ⟨sh36_1, os36_1, loop B36_1⟩
theorem okc36_1 : CEOK Tryz.prog 120 (.at (.loop (sub [1, 1, 0, 1, 0, 0] b36))) ce36_1 := round_ok (cx := cx36_1) (fun R => step_sound (all_fe (P := Tryz.prog) (l := [e58, e59, e60, e61]) ⟨ok58, ok59, ok60, ok61, trivial⟩) R) (needs_of (l := [((.at (.loop (sub [1, 1, 0, 1, 0, 0, 1, 0, 0, 1, 1, 1, 1, 0, 0, 0] b36))), ce36_0)]) (by kernel_rfl) ⟨okc36_0, trivial⟩) sh36_1 os36_1
abbrev sh36_2 : Shape := ⟨[(3, .one (.own 200000)), (4, .one (.own 200001)), (8, .one (.d (.int .i64)))], [(200000, .lst 57 r7 true), (200001, .lst 57 r7 false)]⟩
abbrev os36_2 : List (XE × Shape) := [(.ex 4, ⟨[(4, .one (.own 200000))], [(200000, .lst 57 r7 false)]⟩)]
def cx36_2 : Cx := ⟨Tryz.prog, [e58, e59, e60, e61], [81, 82], 120, [(20, ce36_0), (6, ce36_1)], []⟩
def B36_2 : Int × List R7 × List R7 × Unit → Option ((Int × List R7 × List R7 × Unit) ⊕ List R7 × Unit) := round cx36_2 (sub [1, 1, 1, 0, 1, 0, 0] b36) sh36_2 os36_2
def ce36_2 : CE := ⟨sh36_2, os36_2, loop B36_2⟩
theorem okc36_2 : CEOK Tryz.prog 120 (.at (.loop (sub [1, 1, 1, 0, 1, 0, 0] b36))) ce36_2 := round_ok (cx := cx36_2) (fun R => step_sound (all_fe (P := Tryz.prog) (l := [e58, e59, e60, e61]) ⟨ok58, ok59, ok60, ok61, trivial⟩) R) (needs_of (l := []) (by kernel_rfl) trivial) sh36_2 os36_2
def cx36 : Cx := ⟨Tryz.prog, [e58, e59, e60, e61], [81, 82], 120, [(20, ce36_0), (6, ce36_1), (28, ce36_2)], [200000]⟩
def F36 : List R7 × Unit → Option (List R7 × Unit) := func cx36 Tryz.f36 b36 sh36 out36
def e36 : FE := ⟨36, sh36, out36, F36⟩
theorem ok36 : FEOK Tryz.prog e36 := func_ok (cx := cx36) (fn := Tryz.f36) (c := b36) (all_fe (P := Tryz.prog) (l := [e58, e59, e60, e61]) ⟨ok58, ok59, ok60, ok61, trivial⟩) (by kernel_rfl) (by kernel_rfl) (by kernel_rfl) (by kernel_rfl) (by kernel_rfl) (needs_of (l := [((.at (.loop (sub [1, 1, 0, 1, 0, 0] b36))), ce36_1), ((.at (.loop (sub [1, 1, 1, 0, 1, 0, 0] b36))), ce36_2)]) (by kernel_rfl) ⟨okc36_1, okc36_2, trivial⟩)
abbrev sh29 : Shape := ⟨[(0, .one (.d (.int .i64))), (1, .one (.d (.int .i64)))], []⟩
abbrev out29 : Shape := ⟨[(0, .one (.d (.int .i64)))], []⟩
def b29 : Code := Tryz.f29.body.getD .skip
def cx29 : Cx := ⟨Tryz.prog, [], [], 15, [], []⟩
def F29 : Int × Int × Unit → Option (Int × Unit) := func cx29 Tryz.f29 b29 sh29 out29
def e29 : FE := ⟨29, sh29, out29, F29⟩
theorem ok29 : FEOK Tryz.prog e29 := func_ok (cx := cx29) (fn := Tryz.f29) (c := b29) (all_fe (P := Tryz.prog) (l := []) trivial) (by kernel_rfl) (by kernel_rfl) (by kernel_rfl) (by kernel_rfl) (by kernel_rfl) (needs_of (l := []) (by kernel_rfl) trivial)
abbrev sh54 : Shape := ⟨[(0, .one (.d (.int .i64))), (1, .one (.d (.int .i64)))], []⟩
abbrev out54 : Shape := ⟨[(0, .one (.d (.int .i64)))], []⟩
def b54 : Code := Tryz.f54.body.getD .skip
def cx54 : Cx := ⟨Tryz.prog, [], [], 15, [], []⟩
def F54 : Int × Int × Unit → Option (Int × Unit) := func cx54 Tryz.f54 b54 sh54 out54
def e54 : FE := ⟨54, sh54, out54, F54⟩
theorem ok54 : FEOK Tryz.prog e54 := func_ok (cx := cx54) (fn := Tryz.f54) (c := b54) (all_fe (P := Tryz.prog) (l := []) trivial) (by kernel_rfl) (by kernel_rfl) (by kernel_rfl) (by kernel_rfl) (by kernel_rfl) (needs_of (l := []) (by kernel_rfl) trivial)
abbrev sh32 : Shape := ⟨[(0, .one (.d (.int .i64))), (1, .one (.d (.int .i64)))], []⟩
abbrev out32 : Shape := ⟨[(0, .row [.d (.int .i64), .d (.int .i64), .d (.int .i64), .d .str])], []⟩
def b32 : Code := Tryz.f32.body.getD .skip
abbrev sh32_0 : Shape := ⟨[(4, .one (.ptr 200000 0)), (6, .one (.ptr 200001 0)), (7, .one (.own 200002)), (8, .one (.d (.int .i64))), (9, .one (.d (.int .i64)))], [(200000, .box 34 [.d (.int .i64), .d (.int .i64), .d (.int .i64), .d .str]), (200001, .box 34 [.d (.int .i64), .d (.int .i64), .d (.int .i64), .d .str]), (200002, .lst 9 .str true)]⟩
abbrev os32_0 : List (XE × Shape) := [(.ex 1, ⟨[(4, .one (.ptr 200000 0)), (6, .one (.ptr 200001 0))], [(200000, .box 34 [.d (.int .i64), .d (.int .i64), .d (.int .i64), .d .str]), (200001, .box 34 [.d (.int .i64), .d (.int .i64), .d (.int .i64), .d .str])]⟩)]
def cx32_0 : Cx := ⟨Tryz.prog, [e54], [], 78, [], []⟩
def B32_0 : Int × Int × Int × Int × Int × ByteArray × Int × Int × Int × ByteArray × List ByteArray × Unit → Option ((Int × Int × Int × Int × Int × ByteArray × Int × Int × Int × ByteArray × List ByteArray × Unit) ⊕ Int × Int × Int × ByteArray × Int × Int × Int × ByteArray × Unit) := round cx32_0 (sub [1, 1, 1, 1, 1, 1, 0, 1, 0, 0] b32) sh32_0 os32_0
def ce32_0 : CE := ⟨sh32_0, os32_0, loop B32_0⟩
theorem okc32_0 : CEOK Tryz.prog 78 (.at (.loop (sub [1, 1, 1, 1, 1, 1, 0, 1, 0, 0] b32))) ce32_0 := round_ok (cx := cx32_0) (fun R => step_sound (all_fe (P := Tryz.prog) (l := [e54]) ⟨ok54, trivial⟩) R) (needs_of (l := []) (by kernel_rfl) trivial) sh32_0 os32_0
def cx32 : Cx := ⟨Tryz.prog, [e54], [], 78, [(26, ce32_0)], []⟩
def F32 : Int × Int × Unit → Option (Int × Int × Int × ByteArray × Unit) := func cx32 Tryz.f32 b32 sh32 out32
def e32 : FE := ⟨32, sh32, out32, F32⟩
theorem ok32 : FEOK Tryz.prog e32 := func_ok (cx := cx32) (fn := Tryz.f32) (c := b32) (all_fe (P := Tryz.prog) (l := [e54]) ⟨ok54, trivial⟩) (by kernel_rfl) (by kernel_rfl) (by kernel_rfl) (by kernel_rfl) (by kernel_rfl) (needs_of (l := [((.at (.loop (sub [1, 1, 1, 1, 1, 1, 0, 1, 0, 0] b32))), ce32_0)]) (by kernel_rfl) ⟨okc32_0, trivial⟩)
abbrev sh38 : Shape := ⟨[(0, .one (.d (.list (.int .i64))))], []⟩
abbrev out38 : Shape := ⟨[(0, .one (.d (.list r7)))], []⟩
def b38 : Code := Tryz.f38.body.getD .skip
abbrev sh38_0 : Shape := ⟨[(0, .one (.d (.list (.int .i64)))), (3, .one (.own 200000)), (4, .one (.d (.int .i64)))], [(200000, .lst 57 r7 true)]⟩
abbrev os38_0 : List (XE × Shape) := [(.ex 0, ⟨[(3, .one (.own 200000))], [(200000, .lst 57 r7 true)]⟩)]
def cx38_0 : Cx := ⟨Tryz.prog, [e29, e32], [], 55, [], []⟩
def B38_0 : List Int × Int × List R7 × Unit → Option ((List Int × Int × List R7 × Unit) ⊕ List R7 × Unit) := round cx38_0 (sub [1, 1, 0, 1, 0, 0] b38) sh38_0 os38_0
def ce38_0 : CE := ⟨sh38_0, os38_0, loop B38_0⟩
def cx38 : Cx := ⟨Tryz.prog, [e29, e32], [], 55, [(6, ce38_0)], []⟩
def F38 : List Int × Unit → Option (List R7 × Unit) := func cx38 Tryz.f38 b38 sh38 out38
def e38 : FE := ⟨38, sh38, out38, F38⟩
abbrev sh15 : Shape := ⟨[(0, .one (.d (.list (.int .i64))))], []⟩
abbrev out15 : Shape := ⟨[(0, .one (.d (.list r7)))], []⟩
def b15 : Code := Tryz.f15.body.getD .skip
def cx15 : Cx := ⟨Tryz.prog, [e36, e38], [], 6, [], []⟩
def F15 : List Int × Unit → Option (List R7 × Unit) := func cx15 Tryz.f15 b15 sh15 out15
def e15 : FE := ⟨15, sh15, out15, F15⟩
abbrev sh19 : Shape := ⟨[(0, .one (.d (.list r7))), (1, .one (.d (.list r7)))], []⟩
abbrev out19 : Shape := ⟨[(0, .one (.d .bool))], []⟩
def b19 : Code := Tryz.f19.body.getD .skip
abbrev sh19_0 : Shape := ⟨[(0, .one (.d (.list r7))), (1, .one (.d (.list r7))), (5, .one (.d (.int .i64)))], []⟩
abbrev os19_0 : List (XE × Shape) := [(.ret, ⟨[(4, .one (.d .bool))], []⟩), (.ex 0, ⟨[], []⟩)]
def cx19_0 : Cx := ⟨Tryz.prog, [], [], 26, [], []⟩
def B19_0 : List R7 × List R7 × Int × Unit → Option ((List R7 × List R7 × Int × Unit) ⊕ (Bool × Unit) ⊕ (Unit)) := round cx19_0 (sub [1, 1, 0, 1, 0, 0] b19) sh19_0 os19_0
def ce19_0 : CE := ⟨sh19_0, os19_0, loop B19_0⟩
theorem okc19_0 : CEOK Tryz.prog 26 (.at (.loop (sub [1, 1, 0, 1, 0, 0] b19))) ce19_0 := round_ok (cx := cx19_0) (fun R => step_sound (all_fe (P := Tryz.prog) (l := []) trivial) R) (needs_of (l := []) (by kernel_rfl) trivial) sh19_0 os19_0
def cx19 : Cx := ⟨Tryz.prog, [], [], 26, [(8, ce19_0)], []⟩
def F19 : List R7 × List R7 × Unit → Option (Bool × Unit) := func cx19 Tryz.f19 b19 sh19 out19
def e19 : FE := ⟨19, sh19, out19, F19⟩
theorem ok19 : FEOK Tryz.prog e19 := func_ok (cx := cx19) (fn := Tryz.f19) (c := b19) (all_fe (P := Tryz.prog) (l := []) trivial) (by kernel_rfl) (by kernel_rfl) (by kernel_rfl) (by kernel_rfl) (by kernel_rfl) (needs_of (l := [((.at (.loop (sub [1, 1, 0, 1, 0, 0] b19))), ce19_0)]) (by kernel_rfl) ⟨okc19_0, trivial⟩)
abbrev sh21 : Shape := ⟨[(0, .one (.d (.list r7))), (1, .one (.d (.list r7)))], []⟩
abbrev out21 : Shape := ⟨[(0, .one (.d (.list r7)))], []⟩
def b21 : Code := Tryz.f21.body.getD .skip
def cx21 : Cx := ⟨Tryz.prog, [e36], [], 11, [], []⟩
def F21 : List R7 × List R7 × Unit → Option (List R7 × Unit) := func cx21 Tryz.f21 b21 sh21 out21
def e21 : FE := ⟨21, sh21, out21, F21⟩
theorem ok21 : FEOK Tryz.prog e21 := func_ok (cx := cx21) (fn := Tryz.f21) (c := b21) (all_fe (P := Tryz.prog) (l := [e36]) ⟨ok36, trivial⟩) (by kernel_rfl) (by kernel_rfl) (by kernel_rfl) (by kernel_rfl) (by kernel_rfl) (needs_of (l := []) (by kernel_rfl) trivial)
abbrev sh27 : Shape := ⟨[], []⟩
abbrev out27 : Shape := ⟨[(0, .row [.d (.int .i64), .d (.int .i64), .d (.int .i64), .d .str])], []⟩
def b27 : Code := Tryz.f27.body.getD .skip
def cx27 : Cx := ⟨Tryz.prog, [], [], 2, [], []⟩
def F27 : Unit → Option (Int × Int × Int × ByteArray × Unit) := func cx27 Tryz.f27 b27 sh27 out27
def e27 : FE := ⟨27, sh27, out27, F27⟩
theorem ok27 : FEOK Tryz.prog e27 := func_ok (cx := cx27) (fn := Tryz.f27) (c := b27) (all_fe (P := Tryz.prog) (l := []) trivial) (by kernel_rfl) (by kernel_rfl) (by kernel_rfl) (by kernel_rfl) (by kernel_rfl) (needs_of (l := []) (by kernel_rfl) trivial)
abbrev sh22 : Shape := ⟨[(0, .one (.d (.list r7)))], []⟩
abbrev out22 : Shape := ⟨[(0, .one (.d (.list r7)))], []⟩
def b22 : Code := Tryz.f22.body.getD .skip
abbrev sh22_0 : Shape := ⟨[(0, .one (.d (.list r7))), (3, .one (.own 200000)), (4, .one (.ptr 200001 0)), (5, .one (.d (.int .i64)))], [(200000, .lst 57 r7 true), (200001, .box 57 [.d (.int .i64), .d (.int .i64), .d (.int .i64), .d .str, .d (.int .i64), .d (.int .i64), .d (.int .i64), .d .str, .d .bool, .d .bool, .d .bool])]⟩
abbrev os22_0 : List (XE × Shape) := [(.ret, ⟨[(2, .one (.d (.list r7)))], []⟩), (.ex 0, ⟨[(3, .one (.own 200000)), (4, .one (.ptr 200001 0))], [(200000, .lst 57 r7 true), (200001, .box 57 [.d (.int .i64), .d (.int .i64), .d (.int .i64), .d .str, .d (.int .i64), .d (.int .i64), .d (.int .i64), .d .str, .d .bool, .d .bool, .d .bool])]⟩)]
def cx22_0 : Cx := ⟨Tryz.prog, [e27, e36], [], 56, [], []⟩
def B22_0 : List R7 × Int × List R7 × Int × Int × Int × ByteArray × Int × Int × Int × ByteArray × Bool × Bool × Bool × Unit → Option ((List R7 × Int × List R7 × Int × Int × Int × ByteArray × Int × Int × Int × ByteArray × Bool × Bool × Bool × Unit) ⊕ (List R7 × Unit) ⊕ (List R7 × Int × Int × Int × ByteArray × Int × Int × Int × ByteArray × Bool × Bool × Bool × Unit)) := round cx22_0 (sub [1, 1, 1, 0, 1, 0, 0] b22) sh22_0 os22_0
def ce22_0 : CE := ⟨sh22_0, os22_0, loop B22_0⟩
theorem okc22_0 : CEOK Tryz.prog 56 (.at (.loop (sub [1, 1, 1, 0, 1, 0, 0] b22))) ce22_0 := round_ok (cx := cx22_0) (fun R => step_sound (all_fe (P := Tryz.prog) (l := [e27, e36]) ⟨ok27, ok36, trivial⟩) R) (needs_of (l := []) (by kernel_rfl) trivial) sh22_0 os22_0
def cx22 : Cx := ⟨Tryz.prog, [e27, e36], [], 56, [(8, ce22_0)], []⟩
def F22 : List R7 × Unit → Option (List R7 × Unit) := func cx22 Tryz.f22 b22 sh22 out22
def e22 : FE := ⟨22, sh22, out22, F22⟩
theorem ok22 : FEOK Tryz.prog e22 := func_ok (cx := cx22) (fn := Tryz.f22) (c := b22) (all_fe (P := Tryz.prog) (l := [e27, e36]) ⟨ok27, ok36, trivial⟩) (by kernel_rfl) (by kernel_rfl) (by kernel_rfl) (by kernel_rfl) (by kernel_rfl) (needs_of (l := [((.at (.loop (sub [1, 1, 1, 0, 1, 0, 0] b22))), ce22_0)]) (by kernel_rfl) ⟨okc22_0, trivial⟩)
abbrev sh20 : Shape := ⟨[(0, .one (.d (.list r7))), (1, .one (.d (.list r7)))], []⟩
abbrev out20 : Shape := ⟨[(0, .one (.d (.list r7)))], []⟩
def b20 : Code := Tryz.f20.body.getD .skip
def cx20 : Cx := ⟨Tryz.prog, [e21, e22], [], 11, [], []⟩
def F20 : List R7 × List R7 × Unit → Option (List R7 × Unit) := func cx20 Tryz.f20 b20 sh20 out20
def e20 : FE := ⟨20, sh20, out20, F20⟩
theorem ok20 : FEOK Tryz.prog e20 := func_ok (cx := cx20) (fn := Tryz.f20) (c := b20) (all_fe (P := Tryz.prog) (l := [e21, e22]) ⟨ok21, ok22, trivial⟩) (by kernel_rfl) (by kernel_rfl) (by kernel_rfl) (by kernel_rfl) (by kernel_rfl) (needs_of (l := []) (by kernel_rfl) trivial)
abbrev sh23 : Shape := ⟨[(0, .one (.d (.list r7))), (1, .one (.d (.int .i64))), (2, .one (.d (.int .i64)))], []⟩
abbrev out23 : Shape := ⟨[(0, .one (.d (.list r5)))], []⟩
def b23 : Code := Tryz.f23.body.getD .skip
abbrev sh23_0 : Shape := ⟨[(0, .one (.d (.list r7))), (7, .one (.own 200000)), (8, .one (.d (.int .i64)))], [(200000, .lst 34 r5 true)]⟩
abbrev os23_0 : List (XE × Shape) := [(.ex 0, ⟨[(7, .one (.own 200000))], [(200000, .lst 34 r5 true)]⟩)]
def cx23_0 : Cx := ⟨Tryz.prog, [e27, e32], [], 74, [], []⟩
def B23_0 : List R7 × Int × List R5 × Unit → Option ((List R7 × Int × List R5 × Unit) ⊕ List R5 × Unit) := round cx23_0 (sub [1, 1, 0, 1, 0, 0] b23) sh23_0 os23_0
def ce23_0 : CE := ⟨sh23_0, os23_0, loop B23_0⟩
def cx23 : Cx := ⟨Tryz.prog, [e27, e32], [], 74, [(6, ce23_0)], []⟩
def F23 : List R7 × Int × Int × Unit → Option (List R5 × Unit) := func cx23 Tryz.f23 b23 sh23 out23
def e23 : FE := ⟨23, sh23, out23, F23⟩
abbrev sh25 : Shape := ⟨[(0, .one (.d (.list r7))), (1, .row [.d (.int .i64), .d (.int .i64), .d (.int .i64), .d .str])], []⟩
abbrev out25 : Shape := ⟨[(0, .one (.d .bool))], []⟩
def b25 : Code := Tryz.f25.body.getD .skip
abbrev sh25_0 : Shape := ⟨[(0, .one (.d (.list r7))), (3, .one (.ptr 200000 0)), (5, .one (.d (.int .i64)))], [(200000, .box 34 [.d (.int .i64), .d (.int .i64), .d (.int .i64), .d .str])]⟩
abbrev os25_0 : List (XE × Shape) := [(.ret, ⟨[(4, .one (.d .bool))], []⟩), (.ex 0, ⟨[], []⟩)]
def cx25_0 : Cx := ⟨Tryz.prog, [e26], [], 54, [], []⟩
def B25_0 : List R7 × Int × Int × Int × Int × ByteArray × Unit → Option ((List R7 × Int × Int × Int × Int × ByteArray × Unit) ⊕ (Bool × Unit) ⊕ (Unit)) := round cx25_0 (sub [1, 0, 1, 0, 0] b25) sh25_0 os25_0
def ce25_0 : CE := ⟨sh25_0, os25_0, loop B25_0⟩
def cx25 : Cx := ⟨Tryz.prog, [e26], [], 54, [(4, ce25_0)], []⟩
def F25 : List R7 × Int × Int × Int × ByteArray × Unit → Option (Bool × Unit) := func cx25 Tryz.f25 b25 sh25 out25
def e25 : FE := ⟨25, sh25, out25, F25⟩
abbrev sh55 : Shape := ⟨[(0, .one (.d (.int .i64)))], []⟩
abbrev out55 : Shape := ⟨[(0, .one (.d .str))], []⟩
def b55 : Code := Tryz.f55.body.getD .skip
def cxr55 (X : sh55.D → Option out55.D) : Cx := ⟨Tryz.prog, (⟨55, sh55, out55, X⟩ :: []), [], 17, [], []⟩
def FX55 (X : Int × Unit → Option (ByteArray × Unit)) : Int × Unit → Option (ByteArray × Unit) := func (cxr55 X) Tryz.f55 b55 sh55 out55
def FR55 : Nat → sh55.D → Option out55.D
 | 0 => fun _ => none
 | k + 1 => FX55 (FR55 k)
def F55 : Int × Unit → Option (ByteArray × Unit) := FR55 30
def e55 : FE := ⟨55, sh55, out55, F55⟩
theorem okr55 : ∀ k, FEOK Tryz.prog ⟨55, sh55, out55, FR55 k⟩ := rec_ok (fun _ => rfl) fun k ih => func_ok (cx := cxr55 (FR55 k)) (fn := Tryz.f55) (c := b55) (all_fe (P := Tryz.prog) (l := ⟨55, sh55, out55, FR55 k⟩ :: []) ⟨ih, trivial⟩) (by kernel_rfl) (by kernel_rfl) (by kernel_rfl) (by kernel_rfl) (by kernel_rfl) (needs_of (l := []) (by kernel_rfl) trivial)
theorem ok55 : FEOK Tryz.prog e55 := okr55 30
abbrev sh33 : Shape := ⟨[(0, .row [.d (.int .i64), .d (.int .i64), .d (.int .i64), .d .str])], []⟩
abbrev out33 : Shape := ⟨[(0, .one (.d .str))], []⟩
def b33 : Code := Tryz.f33.body.getD .skip
def cx33 : Cx := ⟨Tryz.prog, [e55], [], 27, [], []⟩
def F33 : Int × Int × Int × ByteArray × Unit → Option (ByteArray × Unit) := func cx33 Tryz.f33 b33 sh33 out33
def e33 : FE := ⟨33, sh33, out33, F33⟩
theorem ok33 : FEOK Tryz.prog e33 := func_ok (cx := cx33) (fn := Tryz.f33) (c := b33) (all_fe (P := Tryz.prog) (l := [e55]) ⟨ok55, trivial⟩) (by kernel_rfl) (by kernel_rfl) (by kernel_rfl) (by kernel_rfl) (by kernel_rfl) (needs_of (l := []) (by kernel_rfl) trivial)
abbrev sh76 : Shape := ⟨[(0, .one (.d (.int .i64)))], []⟩
abbrev out76 : Shape := ⟨[(0, .one (.d .str))], []⟩
def b76 : Code := Tryz.f76.body.getD .skip
def cx76 : Cx := ⟨Tryz.prog, [e32, e33], [], 9, [], []⟩
def F76 : Int × Unit → Option (ByteArray × Unit) := func cx76 Tryz.f76 b76 sh76 out76
def e76 : FE := ⟨76, sh76, out76, F76⟩
theorem ok76 : FEOK Tryz.prog e76 := func_ok (cx := cx76) (fn := Tryz.f76) (c := b76) (all_fe (P := Tryz.prog) (l := [e32, e33]) ⟨ok32, ok33, trivial⟩) (by kernel_rfl) (by kernel_rfl) (by kernel_rfl) (by kernel_rfl) (by kernel_rfl) (needs_of (l := []) (by kernel_rfl) trivial)
abbrev sh49 : Shape := ⟨[(0, .one (.d (.int .i64)))], []⟩
abbrev out49 : Shape := ⟨[(0, .one (.d .str))], []⟩
def b49 : Code := Tryz.f49.body.getD .skip
def cx49 : Cx := ⟨Tryz.prog, [e29, e76], [], 55, [], []⟩
def F49 : Int × Unit → Option (ByteArray × Unit) := func cx49 Tryz.f49 b49 sh49 out49
def e49 : FE := ⟨49, sh49, out49, F49⟩
theorem ok49 : FEOK Tryz.prog e49 := func_ok (cx := cx49) (fn := Tryz.f49) (c := b49) (all_fe (P := Tryz.prog) (l := [e29, e76]) ⟨ok29, ok76, trivial⟩) (by kernel_rfl) (by kernel_rfl) (by kernel_rfl) (by kernel_rfl) (by kernel_rfl) (needs_of (l := []) (by kernel_rfl) trivial)
abbrev sh28 : Shape := ⟨[(0, .one (.d (.list (.int .i64))))], []⟩
abbrev out28 : Shape := ⟨[(0, .one (.d .str))], []⟩
def b28 : Code := Tryz.f28.body.getD .skip
abbrev sh28_0 : Shape := ⟨[(0, .one (.d (.list (.int .i64)))), (3, .one (.d .str)), (4, .one (.d (.int .i64)))], []⟩
abbrev os28_0 : List (XE × Shape) := [(.ex 0, ⟨[(3, .one (.d .str))], []⟩)]
def cx28_0 : Cx := ⟨Tryz.prog, [e29, e49], [], 39, [], []⟩
def B28_0 : List Int × ByteArray × Int × Unit → Option ((List Int × ByteArray × Int × Unit) ⊕ ByteArray × Unit) := round cx28_0 (sub [1, 1, 0, 1, 0, 0] b28) sh28_0 os28_0
def ce28_0 : CE := ⟨sh28_0, os28_0, loop B28_0⟩
theorem okc28_0 : CEOK Tryz.prog 39 (.at (.loop (sub [1, 1, 0, 1, 0, 0] b28))) ce28_0 := round_ok (cx := cx28_0) (fun R => step_sound (all_fe (P := Tryz.prog) (l := [e29, e49]) ⟨ok29, ok49, trivial⟩) R) (needs_of (l := []) (by kernel_rfl) trivial) sh28_0 os28_0
def cx28 : Cx := ⟨Tryz.prog, [e29, e49], [], 39, [(6, ce28_0)], []⟩
def F28 : List Int × Unit → Option (ByteArray × Unit) := func cx28 Tryz.f28 b28 sh28 out28
def e28 : FE := ⟨28, sh28, out28, F28⟩
theorem ok28 : FEOK Tryz.prog e28 := func_ok (cx := cx28) (fn := Tryz.f28) (c := b28) (all_fe (P := Tryz.prog) (l := [e29, e49]) ⟨ok29, ok49, trivial⟩) (by kernel_rfl) (by kernel_rfl) (by kernel_rfl) (by kernel_rfl) (by kernel_rfl) (needs_of (l := [((.at (.loop (sub [1, 1, 0, 1, 0, 0] b28))), ce28_0)]) (by kernel_rfl) ⟨okc28_0, trivial⟩)
abbrev sh84 : Shape := ⟨[(0, .one (.ptr 100000 0))], [(100000, .box 86 [.d .str, .d (.int .i64)])]⟩
abbrev out84 : Shape := ⟨[], [(100000, .box 86 [.d .str, .d (.int .i64)])]⟩
def b84 : Code := Tryz.f84.body.getD .skip
abbrev sh84_0 : Shape := ⟨[(0, .one (.ptr 100000 0))], [(100000, .box 86 [.d .str, .d (.int .i64)])]⟩
abbrev os84_0 : List (XE × Shape) := [(.ex 0, ⟨[], [(100000, .box 86 [.d .str, .d (.int .i64)])]⟩)]
def cx84_0 : Cx := ⟨Tryz.prog, [], [], 31, [], []⟩
def B84_0 : ByteArray × Int × Unit → Option ((ByteArray × Int × Unit) ⊕ ByteArray × Int × Unit) := round cx84_0 (sub [0, 0] b84) sh84_0 os84_0
def ce84_0 : CE := ⟨sh84_0, os84_0, loop B84_0⟩
theorem okc84_0 : CEOK Tryz.prog 31 (.at (.loop (sub [0, 0] b84))) ce84_0 := round_ok (cx := cx84_0) (fun R => step_sound (all_fe (P := Tryz.prog) (l := []) trivial) R) (needs_of (l := []) (by kernel_rfl) trivial) sh84_0 os84_0
def cx84 : Cx := ⟨Tryz.prog, [], [], 31, [(0, ce84_0)], []⟩
def F84 : ByteArray × Int × Unit → Option (ByteArray × Int × Unit) := func cx84 Tryz.f84 b84 sh84 out84
def e84 : FE := ⟨84, sh84, out84, F84⟩
theorem ok84 : FEOK Tryz.prog e84 := func_ok (cx := cx84) (fn := Tryz.f84) (c := b84) (all_fe (P := Tryz.prog) (l := []) trivial) (by kernel_rfl) (by kernel_rfl) (by kernel_rfl) (by kernel_rfl) (by kernel_rfl) (needs_of (l := [((.at (.loop (sub [0, 0] b84))), ce84_0)]) (by kernel_rfl) ⟨okc84_0, trivial⟩)
abbrev sh85 : Shape := ⟨[(0, .one (.ptr 100000 0))], [(100000, .box 86 [.d .str, .d (.int .i64)])]⟩
abbrev out85 : Shape := ⟨[(0, .one (.d .str)), (1, .one (.d (.int .i64)))], [(100000, .box 86 [.d .str, .d (.int .i64)])]⟩
def b85 : Code := Tryz.f85.body.getD .skip
abbrev sh85_0 : Shape := ⟨[(0, .one (.ptr 100000 0)), (4, .one (.d (.int .i64)))], [(100000, .box 86 [.d .str, .d (.int .i64)])]⟩
abbrev os85_0 : List (XE × Shape) := [(.ex 0, ⟨[(0, .one (.ptr 100000 0)), (4, .one (.d (.int .i64)))], [(100000, .box 86 [.d .str, .d (.int .i64)])]⟩)]
def cx85_0 : Cx := ⟨Tryz.prog, [e84], [], 65, [], []⟩
def B85_0 : Int × ByteArray × Int × Unit → Option ((Int × ByteArray × Int × Unit) ⊕ Int × ByteArray × Int × Unit) := round cx85_0 (sub [1, 1, 0, 0, 0] b85) sh85_0 os85_0
def ce85_0 : CE := ⟨sh85_0, os85_0, loop B85_0⟩
theorem okc85_0 : CEOK Tryz.prog 65 (.at (.loop (sub [1, 1, 0, 0, 0] b85))) ce85_0 := round_ok (cx := cx85_0) (fun R => step_sound (all_fe (P := Tryz.prog) (l := [e84]) ⟨ok84, trivial⟩) R) (needs_of (l := []) (by kernel_rfl) trivial) sh85_0 os85_0
def cx85 : Cx := ⟨Tryz.prog, [e84], [], 65, [(4, ce85_0)], []⟩
def F85 : ByteArray × Int × Unit → Option (ByteArray × Int × ByteArray × Int × Unit) := func cx85 Tryz.f85 b85 sh85 out85
def e85 : FE := ⟨85, sh85, out85, F85⟩
theorem ok85 : FEOK Tryz.prog e85 := func_ok (cx := cx85) (fn := Tryz.f85) (c := b85) (all_fe (P := Tryz.prog) (l := [e84]) ⟨ok84, trivial⟩) (by kernel_rfl) (by kernel_rfl) (by kernel_rfl) (by kernel_rfl) (by kernel_rfl) (needs_of (l := [((.at (.loop (sub [1, 1, 0, 0, 0] b85))), ce85_0)]) (by kernel_rfl) ⟨okc85_0, trivial⟩)
abbrev sh145 : Shape := ⟨[(0, .row [.d (.int .i64), .d (.int .i64), .d (.int .i64), .d .str]), (1, .one (.d (.int .i64)))], []⟩
abbrev out145 : Shape := ⟨[(0, .row [.d (.int .i64), .d (.int .i64), .d (.int .i64), .d .str, .d (.int .i64), .d (.int .i64), .d (.int .i64), .d .str, .d .bool, .d .bool, .d .bool])], []⟩
def b145 : Code := Tryz.f145.body.getD .skip
abbrev sh145_0 : Shape := ⟨[(1, .one (.d (.int .i64))), (4, .one (.ptr 200000 0)), (5, .one (.ptr 200001 0)), (6, .one (.ptr 200002 0))], [(200000, .box 57 [.d (.int .i64), .d (.int .i64), .d (.int .i64), .d .str, .d (.int .i64), .d (.int .i64), .d (.int .i64), .d .str, .d .bool, .d .bool, .d .bool]), (200001, .box 57 [.d (.int .i64), .d (.int .i64), .d (.int .i64), .d .str, .d (.int .i64), .d (.int .i64), .d (.int .i64), .d .str, .d .bool, .d .bool, .d .bool]), (200002, .box 92 [.d (.int .i64), .d (.int .i64), .d (.int .i64)])]⟩
abbrev os145_0 : List (XE × Shape) := [(.ex 0, ⟨[(1, .one (.d (.int .i64))), (4, .one (.ptr 200000 0)), (5, .one (.ptr 200001 0)), (6, .one (.ptr 200002 0))], [(200000, .box 57 [.d (.int .i64), .d (.int .i64), .d (.int .i64), .d .str, .d (.int .i64), .d (.int .i64), .d (.int .i64), .d .str, .d .bool, .d .bool, .d .bool]), (200001, .box 57 [.d (.int .i64), .d (.int .i64), .d (.int .i64), .d .str, .d (.int .i64), .d (.int .i64), .d (.int .i64), .d .str, .d .bool, .d .bool, .d .bool]), (200002, .box 92 [.d (.int .i64), .d (.int .i64), .d (.int .i64)])]⟩)]
def cx145_0 : Cx := ⟨Tryz.prog, [], [], 57, [], []⟩
def B145_0 : Int × Int × Int × Int × ByteArray × Int × Int × Int × ByteArray × Bool × Bool × Bool × Int × Int × Int × ByteArray × Int × Int × Int × ByteArray × Bool × Bool × Bool × Int × Int × Int × Unit → Option ((Int × Int × Int × Int × ByteArray × Int × Int × Int × ByteArray × Bool × Bool × Bool × Int × Int × Int × ByteArray × Int × Int × Int × ByteArray × Bool × Bool × Bool × Int × Int × Int × Unit) ⊕ Int × Int × Int × Int × ByteArray × Int × Int × Int × ByteArray × Bool × Bool × Bool × Int × Int × Int × ByteArray × Int × Int × Int × ByteArray × Bool × Bool × Bool × Int × Int × Int × Unit) := round cx145_0 (sub [1, 1, 1, 0, 0, 0] b145) sh145_0 os145_0
def ce145_0 : CE := ⟨sh145_0, os145_0, loop B145_0⟩
theorem okc145_0 : CEOK Tryz.prog 57 (.at (.loop (sub [1, 1, 1, 0, 0, 0] b145))) ce145_0 := round_ok (cx := cx145_0) (fun R => step_sound (all_fe (P := Tryz.prog) (l := []) trivial) R) (needs_of (l := []) (by kernel_rfl) trivial) sh145_0 os145_0
abbrev sh145_1 : Shape := ⟨[(1, .one (.d (.int .i64))), (4, .one (.ptr 200000 0)), (5, .one (.ptr 200001 0)), (6, .one (.ptr 200002 0)), (7, .one (.d (.int .i64)))], [(200000, .box 57 [.d (.int .i64), .d (.int .i64), .d (.int .i64), .d .str, .d (.int .i64), .d (.int .i64), .d (.int .i64), .d .str, .d .bool, .d .bool, .d .bool]), (200001, .box 57 [.d (.int .i64), .d (.int .i64), .d (.int .i64), .d .str, .d (.int .i64), .d (.int .i64), .d (.int .i64), .d .str, .d .bool, .d .bool, .d .bool]), (200002, .box 92 [.d (.int .i64), .d (.int .i64), .d (.int .i64)])]⟩
abbrev os145_1 : List (XE × Shape) := [(.ex 2, ⟨[(4, .one (.ptr 200000 0)), (5, .one (.ptr 200001 0)), (6, .one (.ptr 200002 0))], [(200000, .box 57 [.d (.int .i64), .d (.int .i64), .d (.int .i64), .d .str, .d (.int .i64), .d (.int .i64), .d (.int .i64), .d .str, .d .bool, .d .bool, .d .bool]), (200001, .box 57 [.d (.int .i64), .d (.int .i64), .d (.int .i64), .d .str, .d (.int .i64), .d (.int .i64), .d (.int .i64), .d .str, .d .bool, .d .bool, .d .bool]), (200002, .box 92 [.d (.int .i64), .d (.int .i64), .d (.int .i64)])]⟩)]
def cx145_1 : Cx := ⟨Tryz.prog, [], [], 57, [(6, ce145_0)], []⟩
def B145_1 : Int × Int × Int × Int × Int × ByteArray × Int × Int × Int × ByteArray × Bool × Bool × Bool × Int × Int × Int × ByteArray × Int × Int × Int × ByteArray × Bool × Bool × Bool × Int × Int × Int × Unit → Option ((Int × Int × Int × Int × Int × ByteArray × Int × Int × Int × ByteArray × Bool × Bool × Bool × Int × Int × Int × ByteArray × Int × Int × Int × ByteArray × Bool × Bool × Bool × Int × Int × Int × Unit) ⊕ Int × Int × Int × ByteArray × Int × Int × Int × ByteArray × Bool × Bool × Bool × Int × Int × Int × ByteArray × Int × Int × Int × ByteArray × Bool × Bool × Bool × Int × Int × Int × Unit) := round cx145_1 (sub [1, 1, 1, 1, 1, 0, 1, 0, 0] b145) sh145_1 os145_1
def ce145_1 : CE := ⟨sh145_1, os145_1, loop B145_1⟩
theorem okc145_1 : CEOK Tryz.prog 57 (.at (.loop (sub [1, 1, 1, 1, 1, 0, 1, 0, 0] b145))) ce145_1 := round_ok (cx := cx145_1) (fun R => step_sound (all_fe (P := Tryz.prog) (l := []) trivial) R) (needs_of (l := []) (by kernel_rfl) trivial) sh145_1 os145_1
def cx145 : Cx := ⟨Tryz.prog, [], [], 57, [(6, ce145_0), (18, ce145_1)], []⟩
def F145 : Int × Int × Int × ByteArray × Int × Unit → Option (Int × Int × Int × ByteArray × Int × Int × Int × ByteArray × Bool × Bool × Bool × Unit) := func cx145 Tryz.f145 b145 sh145 out145
def e145 : FE := ⟨145, sh145, out145, F145⟩
theorem ok145 : FEOK Tryz.prog e145 := func_ok (cx := cx145) (fn := Tryz.f145) (c := b145) (all_fe (P := Tryz.prog) (l := []) trivial) (by kernel_rfl) (by kernel_rfl) (by kernel_rfl) (by kernel_rfl) (by kernel_rfl) (needs_of (l := [((.at (.loop (sub [1, 1, 1, 0, 0, 0] b145))), ce145_0), ((.at (.loop (sub [1, 1, 1, 1, 1, 0, 1, 0, 0] b145))), ce145_1)]) (by kernel_rfl) ⟨okc145_0, okc145_1, trivial⟩)
abbrev sh107 : Shape := ⟨[(0, .one (.d .str))], []⟩
abbrev out107 : Shape := ⟨[(0, .row [.d (.int .i64), .d (.int .i64), .d (.int .i64), .d .str, .d (.int .i64), .d (.int .i64), .d (.int .i64), .d .str, .d .bool, .d .bool, .d .bool]), (1, .one (.d .bool))], []⟩
def b107 : Code := Tryz.f107.body.getD .skip
abbrev sh107_0 : Shape := ⟨[(2, .one (.ptr 200000 0)), (4, .one (.d .str)), (5, .one (.d (.int .i64)))], [(200000, .box 57 [.d (.int .i64), .d (.int .i64), .d (.int .i64), .d .str, .d (.int .i64), .d (.int .i64), .d (.int .i64), .d .str, .d .bool, .d .bool, .d .bool])]⟩
abbrev os107_0 : List (XE × Shape) := [(.ex 0, ⟨[(2, .one (.ptr 200000 0)), (4, .one (.d .str)), (5, .one (.d (.int .i64)))], [(200000, .box 57 [.d (.int .i64), .d (.int .i64), .d (.int .i64), .d .str, .d (.int .i64), .d (.int .i64), .d (.int .i64), .d .str, .d .bool, .d .bool, .d .bool])]⟩)]
def cx107_0 : Cx := ⟨Tryz.prog, [e63, e145], [], 87, [], []⟩
def B107_0 : ByteArray × Int × Int × Int × Int × ByteArray × Int × Int × Int × ByteArray × Bool × Bool × Bool × Unit → Option ((ByteArray × Int × Int × Int × Int × ByteArray × Int × Int × Int × ByteArray × Bool × Bool × Bool × Unit) ⊕ ByteArray × Int × Int × Int × Int × ByteArray × Int × Int × Int × ByteArray × Bool × Bool × Bool × Unit) := round cx107_0 (sub [1, 1, 1, 1, 0, 0, 0] b107) sh107_0 os107_0
def ce107_0 : CE := ⟨sh107_0, os107_0, loop B107_0⟩
theorem okc107_0 : CEOK Tryz.prog 87 (.at (.loop (sub [1, 1, 1, 1, 0, 0, 0] b107))) ce107_0 := round_ok (cx := cx107_0) (fun R => step_sound (all_fe (P := Tryz.prog) (l := [e63, e145]) ⟨ok63, ok145, trivial⟩) R) (needs_of (l := []) (by kernel_rfl) trivial) sh107_0 os107_0
def cx107 : Cx := ⟨Tryz.prog, [e63, e145], [], 87, [(10, ce107_0)], []⟩
def F107 : ByteArray × Unit → Option (Int × Int × Int × ByteArray × Int × Int × Int × ByteArray × Bool × Bool × Bool × Bool × Unit) := func cx107 Tryz.f107 b107 sh107 out107
def e107 : FE := ⟨107, sh107, out107, F107⟩
theorem ok107 : FEOK Tryz.prog e107 := func_ok (cx := cx107) (fn := Tryz.f107) (c := b107) (all_fe (P := Tryz.prog) (l := [e63, e145]) ⟨ok63, ok145, trivial⟩) (by kernel_rfl) (by kernel_rfl) (by kernel_rfl) (by kernel_rfl) (by kernel_rfl) (needs_of (l := [((.at (.loop (sub [1, 1, 1, 1, 0, 0, 0] b107))), ce107_0)]) (by kernel_rfl) ⟨okc107_0, trivial⟩)
abbrev sh108 : Shape := ⟨[(0, .one (.d .str)), (1, .row [.d (.int .i64), .d (.int .i64), .d (.int .i64), .d .str])], []⟩
abbrev out108 : Shape := ⟨[(0, .one (.d (.list r7)))], []⟩
def b108 : Code := Tryz.f108.body.getD .skip
def cx108 : Cx := ⟨Tryz.prog, [e22, e27, e145], [], 63, [], []⟩
def F108 : ByteArray × Int × Int × Int × ByteArray × Unit → Option (List R7 × Unit) := func cx108 Tryz.f108 b108 sh108 out108
def e108 : FE := ⟨108, sh108, out108, F108⟩
theorem ok108 : FEOK Tryz.prog e108 := func_ok (cx := cx108) (fn := Tryz.f108) (c := b108) (all_fe (P := Tryz.prog) (l := [e22, e27, e145]) ⟨ok22, ok27, ok145, trivial⟩) (by kernel_rfl) (by kernel_rfl) (by kernel_rfl) (by kernel_rfl) (by kernel_rfl) (needs_of (l := []) (by kernel_rfl) trivial)
abbrev sh86 : Shape := ⟨[(0, .one (.d .str))], []⟩
abbrev out86 : Shape := ⟨[(0, .one (.d (.list r7))), (1, .one (.d .bool)), (2, .one (.d .bool))], []⟩
def b86 : Code := Tryz.f86.body.getD .skip
abbrev sh86_0 : Shape := ⟨[(0, .one (.d .str)), (7, .one (.own 200000)), (8, .one (.d (.int .i64)))], [(200000, .lst 9 .str true)]⟩
abbrev os86_0 : List (XE × Shape) := [(.ret, ⟨[(2, .one (.d (.list r7))), (3, .one (.d .bool)), (4, .one (.d .bool))], []⟩), (.ex 0, ⟨[], []⟩)]
def cx86_0 : Cx := ⟨Tryz.prog, [e22, e36, e37, e107, e108], [], 71, [], []⟩
def B86_0 : ByteArray × Int × List ByteArray × Unit → Option ((ByteArray × Int × List ByteArray × Unit) ⊕ (List R7 × Bool × Bool × Unit) ⊕ (Unit)) := round cx86_0 (sub [1, 1, 1, 1, 0, 1, 0, 0] b86) sh86_0 os86_0
def ce86_0 : CE := ⟨sh86_0, os86_0, loop B86_0⟩
theorem okc86_0 : CEOK Tryz.prog 71 (.at (.loop (sub [1, 1, 1, 1, 0, 1, 0, 0] b86))) ce86_0 := round_ok (cx := cx86_0) (fun R => step_sound (all_fe (P := Tryz.prog) (l := [e22, e36, e37, e107, e108]) ⟨ok22, ok36, ok37, ok107, ok108, trivial⟩) R) (needs_of (l := []) (by kernel_rfl) trivial) sh86_0 os86_0
def cx86 : Cx := ⟨Tryz.prog, [e22, e36, e37, e107, e108], [], 71, [(16, ce86_0)], []⟩
def F86 : ByteArray × Unit → Option (List R7 × Bool × Bool × Unit) := func cx86 Tryz.f86 b86 sh86 out86
def e86 : FE := ⟨86, sh86, out86, F86⟩
theorem ok86 : FEOK Tryz.prog e86 := func_ok (cx := cx86) (fn := Tryz.f86) (c := b86) (all_fe (P := Tryz.prog) (l := [e22, e36, e37, e107, e108]) ⟨ok22, ok36, ok37, ok107, ok108, trivial⟩) (by kernel_rfl) (by kernel_rfl) (by kernel_rfl) (by kernel_rfl) (by kernel_rfl) (needs_of (l := [((.at (.loop (sub [1, 1, 1, 1, 0, 1, 0, 0] b86))), ce86_0)]) (by kernel_rfl) ⟨okc86_0, trivial⟩)
abbrev sh53 : Shape := ⟨[(0, .one (.ptr 100000 0))], [(100000, .box 86 [.d .str, .d (.int .i64)])]⟩
abbrev out53 : Shape := ⟨[(0, .one (.d (.list r7))), (1, .one (.d (.int .i64))), (2, .one (.d .bool))], [(100000, .box 86 [.d .str, .d (.int .i64)])]⟩
def b53 : Code := Tryz.f53.body.getD .skip
abbrev sh53_0 : Shape := ⟨[(0, .one (.ptr 100000 0)), (5, .one (.d (.list r7))), (6, .one (.d (.int .i64)))], [(100000, .box 86 [.d .str, .d (.int .i64)])]⟩
abbrev os53_0 : List (XE × Shape) := [(.ret, ⟨[(2, .one (.d (.list r7))), (3, .one (.d (.int .i64))), (4, .one (.d .bool))], [(100000, .box 86 [.d .str, .d (.int .i64)])]⟩)]
def cx53_0 : Cx := ⟨Tryz.prog, [e20, e22, e36, e37, e84, e85, e86], [], 121, [], []⟩
def B53_0 : List R7 × Int × ByteArray × Int × Unit → Option ((List R7 × Int × ByteArray × Int × Unit) ⊕ List R7 × Int × Bool × ByteArray × Int × Unit) := round cx53_0 (sub [1, 1, 1, 1, 0, 0] b53) sh53_0 os53_0
def ce53_0 : CE := ⟨sh53_0, os53_0, loop B53_0⟩
theorem okc53_0 : CEOK Tryz.prog 121 (.at (.loop (sub [1, 1, 1, 1, 0, 0] b53))) ce53_0 := round_ok (cx := cx53_0) (fun R => step_sound (all_fe (P := Tryz.prog) (l := [e20, e22, e36, e37, e84, e85, e86]) ⟨ok20, ok22, ok36, ok37, ok84, ok85, ok86, trivial⟩) R) (needs_of (l := []) (by kernel_rfl) trivial) sh53_0 os53_0
def cx53 : Cx := ⟨Tryz.prog, [e20, e22, e36, e37, e84, e85, e86], [], 121, [(10, ce53_0)], []⟩
def F53 : ByteArray × Int × Unit → Option (List R7 × Int × Bool × ByteArray × Int × Unit) := func cx53 Tryz.f53 b53 sh53 out53
def e53 : FE := ⟨53, sh53, out53, F53⟩
theorem ok53 : FEOK Tryz.prog e53 := func_ok (cx := cx53) (fn := Tryz.f53) (c := b53) (all_fe (P := Tryz.prog) (l := [e20, e22, e36, e37, e84, e85, e86]) ⟨ok20, ok22, ok36, ok37, ok84, ok85, ok86, trivial⟩) (by kernel_rfl) (by kernel_rfl) (by kernel_rfl) (by kernel_rfl) (by kernel_rfl) (needs_of (l := [((.at (.loop (sub [1, 1, 1, 1, 0, 0] b53))), ce53_0)]) (by kernel_rfl) ⟨okc53_0, trivial⟩)
abbrev sh31 : Shape := ⟨[(0, .one (.d .str))], []⟩
abbrev out31 : Shape := ⟨[(0, .one (.d (.list r7))), (1, .one (.d (.int .i64))), (2, .one (.d (.int .i64)))], []⟩
def b31 : Code := Tryz.f31.body.getD .skip
abbrev sh31_0 : Shape := ⟨[(0, .one (.d .str)), (5, .one (.ptr 200000 0)), (6, .one (.d (.list r7)))], [(200000, .box 86 [.d .str, .d (.int .i64)])]⟩
abbrev os31_0 : List (XE × Shape) := [(.ret, ⟨[(2, .one (.d (.list r7))), (3, .one (.d (.int .i64))), (4, .one (.d (.int .i64)))], []⟩)]
def cx31_0 : Cx := ⟨Tryz.prog, [e21, e53], [], 64, [], []⟩
def B31_0 : ByteArray × List R7 × ByteArray × Int × Unit → Option ((ByteArray × List R7 × ByteArray × Int × Unit) ⊕ List R7 × Int × Int × Unit) := round cx31_0 (sub [1, 1, 1, 0, 0] b31) sh31_0 os31_0
def ce31_0 : CE := ⟨sh31_0, os31_0, loop B31_0⟩
theorem okc31_0 : CEOK Tryz.prog 64 (.at (.loop (sub [1, 1, 1, 0, 0] b31))) ce31_0 := round_ok (cx := cx31_0) (fun R => step_sound (all_fe (P := Tryz.prog) (l := [e21, e53]) ⟨ok21, ok53, trivial⟩) R) (needs_of (l := []) (by kernel_rfl) trivial) sh31_0 os31_0
def cx31 : Cx := ⟨Tryz.prog, [e21, e53], [], 64, [(6, ce31_0)], []⟩
def F31 : ByteArray × Unit → Option (List R7 × Int × Int × Unit) := func cx31 Tryz.f31 b31 sh31 out31
def e31 : FE := ⟨31, sh31, out31, F31⟩
theorem ok31 : FEOK Tryz.prog e31 := func_ok (cx := cx31) (fn := Tryz.f31) (c := b31) (all_fe (P := Tryz.prog) (l := [e21, e53]) ⟨ok21, ok53, trivial⟩) (by kernel_rfl) (by kernel_rfl) (by kernel_rfl) (by kernel_rfl) (by kernel_rfl) (needs_of (l := [((.at (.loop (sub [1, 1, 1, 0, 0] b31))), ce31_0)]) (by kernel_rfl) ⟨okc31_0, trivial⟩)
abbrev sh35 : Shape := ⟨[(0, .one (.d (.list r7)))], []⟩
abbrev out35 : Shape := ⟨[(0, .one (.d .str))], []⟩
def b35 : Code := Tryz.f35.body.getD .skip
abbrev sh35_0 : Shape := ⟨[(0, .one (.d (.list r7))), (3, .one (.d .str)), (4, .one (.d (.int .i64)))], []⟩
abbrev os35_0 : List (XE × Shape) := [(.ex 0, ⟨[(3, .one (.d .str))], []⟩)]
def cx35_0 : Cx := ⟨Tryz.prog, [e33], [], 56, [], []⟩
def B35_0 : List R7 × ByteArray × Int × Unit → Option ((List R7 × ByteArray × Int × Unit) ⊕ ByteArray × Unit) := round cx35_0 (sub [1, 1, 1, 0, 1, 0, 0] b35) sh35_0 os35_0
def ce35_0 : CE := ⟨sh35_0, os35_0, loop B35_0⟩
def cx35 : Cx := ⟨Tryz.prog, [e33], [], 56, [(10, ce35_0)], []⟩
def F35 : List R7 × Unit → Option (ByteArray × Unit) := func cx35 Tryz.f35 b35 sh35 out35
def e35 : FE := ⟨35, sh35, out35, F35⟩
end
end Go.Vx.Z
/-! Loops, whole numbers. -/
namespace Go.Vx
open Go
set_option linter.unusedVariables false
section
variable {P E : Type} {B : P → Option (P ⊕ E)}
theorem loop_end {p : P} {e : E} (h : B p = some (.inr e)) : loop B p = some e := loop_of_iter (n := 1) (by simp [iter, h])
theorem loop_step {p q : P} {e : E} (h : B p = some (.inl q)) (hq : loop B q = some e) : loop B p = some e := by
 obtain ⟨n, hn⟩ := loop_iter hq
 exact loop_of_iter (n := n + 1) (by simp [iter, h, hn])
theorem loop_inv (I : P → Prop) (m : P → Nat) (Q : E → Prop) (h : ∀ p, I p → (∃ q, B p = some (.inl q) ∧ I q ∧ m q < m p) ∨ (∃ e, B p = some (.inr e) ∧ Q e)) : ∀ p, I p → ∃ e, loop B p = some e ∧ Q e := by
 have key : ∀ n p, m p < n → I p → ∃ e, loop B p = some e ∧ Q e := by
  intro n
  induction n with
  | zero => intro p hn; omega
  | succ n ih =>
   intro p hn hp
   rcases h p hp with ⟨q, h1, h2, h3⟩ | ⟨e, h1, h2⟩
   ·obtain ⟨e, h4, h5⟩ := ih q (by omega) h2
    exact ⟨e, loop_step h1 h4, h5⟩
   ·exact ⟨e, loop_end h1, h2⟩
 intro p hp
 exact key (m p + 1) p (by omega) hp
theorem loop_row (st : Nat → P) (n : Nat) {e : E} (h : ∀ i, i < n → B (st i) = some (.inl (st (i + 1)))) (he : B (st n) = some (.inr e)) : loop B (st 0) = some e := by
 have key : ∀ k, k ≤ n → loop B (st (n - k)) = some e := by
  intro k
  induction k with
  | zero => intro _; exact loop_end he
  | succ k ih =>
   intro hk
   refine loop_step (h (n - (k + 1)) (by omega)) ?_
   rw [show n - (k + 1) + 1 = n - k by omega]
   exact ih (by omega)
 have := key n (Nat.le_refl _)
 rwa [Nat.sub_self] at this
end
theorem wrap64 {x : Int} (h0 : -9223372036854775808 ≤ x) (h1 : x ≤ 9223372036854775807) : IntKind.wrap IntKind.i64 x = x := IntWalk.i64_in x (by omega)
theorem wrap8 {x : Int} (h0 : 0 ≤ x) (h1 : x ≤ 255) : IntKind.wrap IntKind.u8 x = x := by
 show x % 256 = x
 omega
theorem wrap64s (i : Nat) (h : i < 9223372036854775807) : IntKind.wrap IntKind.i64 ((i : Int) + 1) = ((i + 1 : Nat) : Int) := by
 rw [wrap64 (by omega) (by omega)]; omega
def bs (s : ByteArray) : List UInt8 := s.data.toList
theorem bs_size (s : ByteArray) : s.size = (bs s).length := (Array.length_toList (xs := s.data)).symm
theorem bs_toList (s : ByteArray) : bl s = bs s := rfl
theorem bs_inj {a b : ByteArray} (h : bs a = bs b) : a = b := by
 cases a; cases b
 simp only [bs, ByteArray.mk.injEq] at h ⊢
 exact Array.toList_inj.1 h
theorem bs_append (a b : ByteArray) : bs (a ++ b) = bs a ++ bs b := by
 simp [bs, ByteArray.data_append]
theorem bs_lit (l : List UInt8) : bs (lit l) = l := rfl
theorem bs_extract (s : ByteArray) (i j : Nat) : bs (s.extract i j) = ((bs s).take j).drop i := by
 simp [bs, ByteArray.data_extract, List.drop_take]
theorem bt_eq (s : ByteArray) (i : Nat) (h : i < s.size) : bt s (i : Int) = (((bs s)[i]'(by rw [← bs_size]; exact h)).toNat : Int) := by
 unfold bt
 have : s[i]? = some ((bs s)[i]'(by rw [← bs_size]; exact h)) := by
  rw [getElem?_pos s i h]
  simp [bs, ByteArray.getElem_eq_getElem_data]
 simp [this]
end Go.Vx
