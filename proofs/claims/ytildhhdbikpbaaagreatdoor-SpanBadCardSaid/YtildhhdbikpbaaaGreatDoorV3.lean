import Derived.Test.YtildhhdbikpbaaaGreatDoorV2
import Derived.Test.YtildhhdbikpbaaaGreatDoorProg
import Derived.KernelRfl
import Derived.IntWalk
import Derived.Lib.Bytealg
import Derived.Sort.Statements
import Derived.Shelf.SlSortCmp.WholeK
set_option linter.unusedSimpArgs false
namespace Go.Vx.Z
open Go Go.Vx Go.Proofs
set_option linter.unusedVariables false
set_option maxRecDepth 1000000
set_option maxHeartbeats 4000000
abbrev r0 : Ty := .cons .str <| .cons (.int .i64) <| .cons (.int .i64) <| .cons (.int .i64) <| .cons .str <| .unit
abbrev r1 : Ty := .cons (.int .i64) <| .cons (.int .i64) <| .cons (.int .i64) <| .cons .str <| .cons (.list r0) <| .cons .str <| .cons .str <| .unit
abbrev r2 : Ty := .cons .str <| .cons (.list r1) <| .unit
abbrev r3 : Ty := .cons .str <| .cons .str <| .cons .bool <| .cons .bool <| .cons (.int .i64) <| .cons (.int .i64) <| .cons (.int .i64) <| .cons .str <| .cons (.int .i64) <| .unit
abbrev r5 : Ty := .cons (.int .i64) <| .cons (.int .i64) <| .cons (.int .i64) <| .cons .str <| .unit
abbrev R5 := Int × Int × Int × ByteArray × Unit
abbrev r7 : Ty := .cons (.int .i64) <| .cons (.int .i64) <| .cons (.int .i64) <| .cons .str <| .cons (.int .i64) <| .cons (.int .i64) <| .cons (.int .i64) <| .cons .str <| .cons .bool <| .cons .bool <| .cons .bool <| .unit
abbrev R7 := Int × Int × Int × ByteArray × Int × Int × Int × ByteArray × Bool × Bool × Bool × Unit
abbrev r8 : Ty := .cons (.int .i64) <| .cons (.int .i64) <| .cons (.int .i64) <| .cons .str <| .cons .bool <| .cons .bool <| .cons (.int .i64) <| .cons (.int .i64) <| .cons (.int .i64) <| .cons .str <| .cons .bool <| .cons .bool <| .unit
abbrev R8 := Int × Int × Int × ByteArray × Bool × Bool × Int × Int × Int × ByteArray × Bool × Bool × Unit
noncomputable def e174 : FE := ⟨174, shByte, outInt, FIndexByte⟩
theorem ok174 : FEOK Tryz.prog e174 := ok_indexByte (fn := Tryz.f174) (by kernel_rfl) (by kernel_rfl) (by kernel_rfl) (by kernel_rfl) (by kernel_rfl)
noncomputable def e178 : FE := ⟨178, shByte, outInt, FCount⟩
theorem ok178 : FEOK Tryz.prog e178 := ok_count (fn := Tryz.f178) (by kernel_rfl) (by kernel_rfl) (by kernel_rfl) (by kernel_rfl) (by kernel_rfl)
@[reducible] def sh39 : Shape := ⟨[(0, .one (.d (.list r7)))], []⟩
@[reducible] def out39 : Shape := ⟨[(0, .one (.own 200000))], [(200000, .lst 68 r8 false)]⟩
noncomputable def b39 : Code := Tryz.f39.body.getD .skip
@[reducible] def sh39_0 : Shape := ⟨[(3, .one (.own 200000)), (7, .one (.d (.list r7))), (8, .one (.d (.int .i64))), (9, .one (.d (.int .i64)))], [(200000, .lst 68 r8 false)]⟩
@[reducible] def os39_0 : List (XE × Shape) := [(.ex 0, ⟨[(3, .one (.own 200000))], [(200000, .lst 68 r8 false)]⟩)]
noncomputable def cx39_0 : Cx := ⟨Tryz.prog, [], [0, 1, 2, 3, 4, 5, 6, 7, 8, 9, 10, 11, 12, 13, 14, 15, 16, 17, 18, 19, 20, 21, 22, 23, 24, 25, 26, 27, 28, 29, 30, 31, 32], 33, [], []⟩
noncomputable def B39_0 : List R7 × Int × Int × List R8 × Unit → Option ((List R7 × Int × Int × List R8 × Unit) ⊕ List R8 × Unit) := round cx39_0 (sub [1, 1, 0, 1, 0, 0] b39) sh39_0 os39_0
noncomputable def ce39_0 : CE := ⟨sh39_0, os39_0, loop B39_0⟩
theorem okc39_0 : CEOK Tryz.prog 33 (.at (.loop (sub [1, 1, 0, 1, 0, 0] b39))) ce39_0 := round_ok (cx := cx39_0) (fun R => step_sound (all_fe (P := Tryz.prog) (l := []) trivial) R) (needs_of (l := []) (by kernel_rfl) trivial) sh39_0 os39_0
noncomputable def cx39 : Cx := ⟨Tryz.prog, [], [0, 1, 2, 3, 4, 5, 6, 7, 8, 9, 10, 11, 12, 13, 14, 15, 16, 17, 18, 19, 20, 21, 22, 23, 24, 25, 26, 27, 28, 29, 30, 31, 32], 33, [(6, ce39_0)], []⟩
noncomputable def F39 : List R7 × Unit → Option (List R8 × Unit) := func cx39 Tryz.f39 b39 sh39 out39
noncomputable def e39 : FE := ⟨39, sh39, out39, F39⟩
theorem ok39 : FEOK Tryz.prog e39 := func_ok (cx := cx39) (fn := Tryz.f39) (c := b39) (all_fe (P := Tryz.prog) (l := []) trivial) (by kernel_rfl) (by kernel_rfl) (by kernel_rfl) (by kernel_rfl) (by kernel_rfl) (needs_of (l := [((.at (.loop (sub [1, 1, 0, 1, 0, 0] b39))), ce39_0)]) (by kernel_rfl) ⟨okc39_0, trivial⟩)
@[reducible] def sh65 : Shape := ⟨[(0, .one (.d .bool))], []⟩
@[reducible] def out65 : Shape := ⟨[(0, .one (.d (.int .i64)))], []⟩
noncomputable def b65 : Code := Tryz.f65.body.getD .skip
noncomputable def cx65 : Cx := ⟨Tryz.prog, [], [], 4, [], []⟩
noncomputable def F65 : Bool × Unit → Option (Int × Unit) := func cx65 Tryz.f65 b65 sh65 out65
noncomputable def e65 : FE := ⟨65, sh65, out65, F65⟩
theorem ok65 : FEOK Tryz.prog e65 := func_ok (cx := cx65) (fn := Tryz.f65) (c := b65) (all_fe (P := Tryz.prog) (l := []) trivial) (by kernel_rfl) (by kernel_rfl) (by kernel_rfl) (by kernel_rfl) (by kernel_rfl) (needs_of (l := []) (by kernel_rfl) trivial)
@[reducible] def sh66 : Shape := ⟨[(0, .one (.d (.list (.int .i64))))], []⟩
@[reducible] def out66 : Shape := ⟨[(0, .one (.d (.int .i64)))], []⟩
noncomputable def b66 : Code := Tryz.f66.body.getD .skip
@[reducible] def sh66_0 : Shape := ⟨[(3, .one (.d (.int .i64))), (6, .one (.d (.list (.int .i64)))), (7, .one (.d (.int .i64))), (8, .one (.d (.int .i64)))], []⟩
@[reducible] def os66_0 : List (XE × Shape) := [(.ret, ⟨[(2, .one (.d (.int .i64)))], []⟩), (.ex 0, ⟨[(3, .one (.d (.int .i64)))], []⟩)]
noncomputable def cx66_0 : Cx := ⟨Tryz.prog, [], [], 18, [], []⟩
noncomputable def B66_0 : Int × List Int × Int × Int × Unit → Option ((Int × List Int × Int × Int × Unit) ⊕ (Int × Unit) ⊕ (Int × Unit)) := round cx66_0 (sub [1, 1, 0, 1, 0, 0] b66) sh66_0 os66_0
noncomputable def ce66_0 : CE := ⟨sh66_0, os66_0, loop B66_0⟩
theorem okc66_0 : CEOK Tryz.prog 18 (.at (.loop (sub [1, 1, 0, 1, 0, 0] b66))) ce66_0 := round_ok (cx := cx66_0) (fun R => step_sound (all_fe (P := Tryz.prog) (l := []) trivial) R) (needs_of (l := []) (by kernel_rfl) trivial) sh66_0 os66_0
noncomputable def cx66 : Cx := ⟨Tryz.prog, [], [], 18, [(6, ce66_0)], []⟩
noncomputable def F66 : List Int × Unit → Option (Int × Unit) := func cx66 Tryz.f66 b66 sh66 out66
noncomputable def e66 : FE := ⟨66, sh66, out66, F66⟩
theorem ok66 : FEOK Tryz.prog e66 := func_ok (cx := cx66) (fn := Tryz.f66) (c := b66) (all_fe (P := Tryz.prog) (l := []) trivial) (by kernel_rfl) (by kernel_rfl) (by kernel_rfl) (by kernel_rfl) (by kernel_rfl) (needs_of (l := [((.at (.loop (sub [1, 1, 0, 1, 0, 0] b66))), ce66_0)]) (by kernel_rfl) ⟨okc66_0, trivial⟩)
@[reducible] def sh113 : Shape := ⟨[(0, .one (.d (.int .i64)))], []⟩
@[reducible] def out113 : Shape := ⟨[(0, .one (.d .bool))], []⟩
noncomputable def b113 : Code := Tryz.f113.body.getD .skip
noncomputable def cx113 : Cx := ⟨Tryz.prog, [], [], 6, [], []⟩
noncomputable def F113 : Int × Unit → Option (Bool × Unit) := func cx113 Tryz.f113 b113 sh113 out113
noncomputable def e113 : FE := ⟨113, sh113, out113, F113⟩
theorem ok113 : FEOK Tryz.prog e113 := func_ok (cx := cx113) (fn := Tryz.f113) (c := b113) (all_fe (P := Tryz.prog) (l := []) trivial) (by kernel_rfl) (by kernel_rfl) (by kernel_rfl) (by kernel_rfl) (by kernel_rfl) (needs_of (l := []) (by kernel_rfl) trivial)
@[reducible] def sh92 : Shape := ⟨[(0, .one (.d (.int .i64))), (1, .one (.d (.int .i64)))], []⟩
@[reducible] def out92 : Shape := ⟨[(0, .one (.d (.int .i64)))], []⟩
noncomputable def b92 : Code := Tryz.f92.body.getD .skip
noncomputable def cx92 : Cx := ⟨Tryz.prog, [e113], [], 20, [], []⟩
noncomputable def F92 : Int × Int × Unit → Option (Int × Unit) := func cx92 Tryz.f92 b92 sh92 out92
noncomputable def e92 : FE := ⟨92, sh92, out92, F92⟩
theorem ok92 : FEOK Tryz.prog e92 := func_ok (cx := cx92) (fn := Tryz.f92) (c := b92) (all_fe (P := Tryz.prog) (l := [e113]) ⟨ok113, trivial⟩) (by kernel_rfl) (by kernel_rfl) (by kernel_rfl) (by kernel_rfl) (by kernel_rfl) (needs_of (l := []) (by kernel_rfl) trivial)
@[reducible] def sh161 : Shape := ⟨[(0, .one (.d .str)), (1, .one (.d (.int .u8)))], []⟩
@[reducible] def out161 : Shape := ⟨[(0, .one (.d (.int .i64)))], []⟩
noncomputable def b161 : Code := Tryz.f161.body.getD .skip
noncomputable def cx161 : Cx := ⟨Tryz.prog, [e174], [], 8, [], []⟩
noncomputable def F161 : ByteArray × Int × Unit → Option (Int × Unit) := func cx161 Tryz.f161 b161 sh161 out161
noncomputable def e161 : FE := ⟨161, sh161, out161, F161⟩
theorem ok161 : FEOK Tryz.prog e161 := func_ok (cx := cx161) (fn := Tryz.f161) (c := b161) (all_fe (P := Tryz.prog) (l := [e174]) ⟨ok174, trivial⟩) (by kernel_rfl) (by kernel_rfl) (by kernel_rfl) (by kernel_rfl) (by kernel_rfl) (needs_of (l := []) (by kernel_rfl) trivial)
@[reducible] def sh162 : Shape := ⟨[(0, .one (.d .str)), (1, .one (.d .str))], []⟩
@[reducible] def out162 : Shape := ⟨[(0, .one (.d (.int .i64)))], []⟩
noncomputable def b162 : Code := Tryz.f162.body.getD .skip
noncomputable def cx162 : Cx := ⟨Tryz.prog, [e161], [], 143, [], []⟩
noncomputable def F162 : ByteArray × ByteArray × Unit → Option (Int × Unit) := func cx162 Tryz.f162 b162 sh162 out162
noncomputable def e162 : FE := ⟨162, sh162, out162, F162⟩
theorem ok162 : FEOK Tryz.prog e162 := func_ok (cx := cx162) (fn := Tryz.f162) (c := b162) (all_fe (P := Tryz.prog) (l := [e161]) ⟨ok161, trivial⟩) (by kernel_rfl) (by kernel_rfl) (by kernel_rfl) (by kernel_rfl) (by kernel_rfl) (needs_of (l := []) (by kernel_rfl) trivial)
@[reducible] def sh165 : Shape := ⟨[(0, .one (.d .str)), (1, .one (.d .str))], []⟩
@[reducible] def out165 : Shape := ⟨[(0, .one (.d (.int .i64)))], []⟩
noncomputable def b165 : Code := Tryz.f165.body.getD .skip
noncomputable def cx165 : Cx := ⟨Tryz.prog, [e162], [], 8, [], []⟩
noncomputable def F165 : ByteArray × ByteArray × Unit → Option (Int × Unit) := func cx165 Tryz.f165 b165 sh165 out165
noncomputable def e165 : FE := ⟨165, sh165, out165, F165⟩
theorem ok165 : FEOK Tryz.prog e165 := func_ok (cx := cx165) (fn := Tryz.f165) (c := b165) (all_fe (P := Tryz.prog) (l := [e162]) ⟨ok162, trivial⟩) (by kernel_rfl) (by kernel_rfl) (by kernel_rfl) (by kernel_rfl) (by kernel_rfl) (needs_of (l := []) (by kernel_rfl) trivial)
@[reducible] def sh176 : Shape := ⟨[(0, .one (.d .str))], []⟩
@[reducible] def out176 : Shape := ⟨[(0, .one (.d (.int .i64)))], []⟩
noncomputable def b176 : Code := Tryz.f176.body.getD .skip
@[reducible] def sh176_0 : Shape := ⟨[(2, .one (.d (.int .i64))), (4, .one (.ptr 200000 0))], [(200000, .it)]⟩
@[reducible] def os176_0 : List (XE × Shape) := [(.ex 0, ⟨[(2, .one (.d (.int .i64)))], []⟩)]
noncomputable def cx176_0 : Cx := ⟨Tryz.prog, [], [], 10, [], []⟩
noncomputable def B176_0 : Int × ByteArray × Nat × Unit → Option ((Int × ByteArray × Nat × Unit) ⊕ Int × Unit) := round cx176_0 (sub [1, 0, 1, 0, 0] b176) sh176_0 os176_0
noncomputable def ce176_0 : CE := ⟨sh176_0, os176_0, loop B176_0⟩
theorem okc176_0 : CEOK Tryz.prog 10 (.at (.loop (sub [1, 0, 1, 0, 0] b176))) ce176_0 := round_ok (cx := cx176_0) (fun R => step_sound (all_fe (P := Tryz.prog) (l := []) trivial) R) (needs_of (l := []) (by kernel_rfl) trivial) sh176_0 os176_0
noncomputable def cx176 : Cx := ⟨Tryz.prog, [], [], 10, [(4, ce176_0)], []⟩
noncomputable def F176 : ByteArray × Unit → Option (Int × Unit) := func cx176 Tryz.f176 b176 sh176 out176
noncomputable def e176 : FE := ⟨176, sh176, out176, F176⟩
theorem ok176 : FEOK Tryz.prog e176 := func_ok (cx := cx176) (fn := Tryz.f176) (c := b176) (all_fe (P := Tryz.prog) (l := []) trivial) (by kernel_rfl) (by kernel_rfl) (by kernel_rfl) (by kernel_rfl) (by kernel_rfl) (needs_of (l := [((.at (.loop (sub [1, 0, 1, 0, 0] b176))), ce176_0)]) (by kernel_rfl) ⟨okc176_0, trivial⟩)
@[reducible] def sh164 : Shape := ⟨[(0, .one (.d .str)), (1, .one (.d .str))], []⟩
@[reducible] def out164 : Shape := ⟨[(0, .one (.d (.int .i64)))], []⟩
noncomputable def b164 : Code := Tryz.f164.body.getD .skip
@[reducible] def sh164_0 : Shape := ⟨[(0, .one (.d .str)), (1, .one (.d .str)), (5, .one (.d (.int .i64)))], []⟩
@[reducible] def os164_0 : List (XE × Shape) := [(.ret, ⟨[(4, .one (.d (.int .i64)))], []⟩)]
noncomputable def cx164_0 : Cx := ⟨Tryz.prog, [e165, e176, e178], [], 34, [], []⟩
noncomputable def B164_0 : ByteArray × ByteArray × Int × Unit → Option ((ByteArray × ByteArray × Int × Unit) ⊕ Int × Unit) := round cx164_0 (sub [1, 1, 1, 1, 0, 0] b164) sh164_0 os164_0
noncomputable def ce164_0 : CE := ⟨sh164_0, os164_0, loop B164_0⟩
theorem okc164_0 : CEOK Tryz.prog 34 (.at (.loop (sub [1, 1, 1, 1, 0, 0] b164))) ce164_0 := round_ok (cx := cx164_0) (fun R => step_sound (all_fe (P := Tryz.prog) (l := [e165, e176, e178]) ⟨ok165, ok176, ok178, trivial⟩) R) (needs_of (l := []) (by kernel_rfl) trivial) sh164_0 os164_0
noncomputable def cx164 : Cx := ⟨Tryz.prog, [e165, e176, e178], [], 34, [(12, ce164_0)], []⟩
noncomputable def F164 : ByteArray × ByteArray × Unit → Option (Int × Unit) := func cx164 Tryz.f164 b164 sh164 out164
noncomputable def e164 : FE := ⟨164, sh164, out164, F164⟩
theorem ok164 : FEOK Tryz.prog e164 := func_ok (cx := cx164) (fn := Tryz.f164) (c := b164) (all_fe (P := Tryz.prog) (l := [e165, e176, e178]) ⟨ok165, ok176, ok178, trivial⟩) (by kernel_rfl) (by kernel_rfl) (by kernel_rfl) (by kernel_rfl) (by kernel_rfl) (needs_of (l := [((.at (.loop (sub [1, 1, 1, 1, 0, 0] b164))), ce164_0)]) (by kernel_rfl) ⟨okc164_0, trivial⟩)
@[reducible] def sh139 : Shape := ⟨[(0, .one (.d .str)), (1, .one (.d .str)), (2, .one (.d (.int .i64))), (3, .one (.d (.int .i64)))], []⟩
@[reducible] def out139 : Shape := ⟨[(0, .one (.d (.list .str)))], []⟩
noncomputable def b139 : Code := Tryz.f139.body.getD .skip
@[reducible] def sh139_0 : Shape := ⟨[(0, .one (.d .str)), (1, .one (.d .str)), (2, .one (.d (.int .i64))), (3, .one (.d (.int .i64))), (9, .one (.own 200000)), (10, .one (.d (.int .i64)))], [(200000, .lst 9 .str false)]⟩
@[reducible] def os139_0 : List (XE × Shape) := [(.ex 0, ⟨[(0, .one (.d .str)), (9, .one (.own 200000)), (10, .one (.d (.int .i64)))], [(200000, .lst 9 .str false)]⟩)]
noncomputable def cx139_0 : Cx := ⟨Tryz.prog, [e164, e165], [31], 66, [], []⟩
noncomputable def B139_0 : ByteArray × ByteArray × Int × Int × Int × List ByteArray × Unit → Option ((ByteArray × ByteArray × Int × Int × Int × List ByteArray × Unit) ⊕ ByteArray × Int × List ByteArray × Unit) := round cx139_0 (sub [1, 1, 1, 1, 1, 1, 1, 1, 0, 0, 0] b139) sh139_0 os139_0
noncomputable def ce139_0 : CE := ⟨sh139_0, os139_0, loop B139_0⟩
theorem okc139_0 : CEOK Tryz.prog 66 (.at (.loop (sub [1, 1, 1, 1, 1, 1, 1, 1, 0, 0, 0] b139))) ce139_0 := round_ok (cx := cx139_0) (fun R => step_sound (all_fe (P := Tryz.prog) (l := [e164, e165]) ⟨ok164, ok165, trivial⟩) R) (needs_of (l := []) (by kernel_rfl) trivial) sh139_0 os139_0
noncomputable def cx139 : Cx := ⟨Tryz.prog, [e164, e165], [31], 66, [(22, ce139_0)], [200000]⟩
noncomputable def F139 : ByteArray × ByteArray × Int × Int × Unit → Option (List ByteArray × Unit) := func cx139 Tryz.f139 b139 sh139 out139
noncomputable def e139 : FE := ⟨139, sh139, out139, F139⟩
theorem ok139 : FEOK Tryz.prog e139 := func_ok (cx := cx139) (fn := Tryz.f139) (c := b139) (all_fe (P := Tryz.prog) (l := [e164, e165]) ⟨ok164, ok165, trivial⟩) (by kernel_rfl) (by kernel_rfl) (by kernel_rfl) (by kernel_rfl) (by kernel_rfl) (needs_of (l := [((.at (.loop (sub [1, 1, 1, 1, 1, 1, 1, 1, 0, 0, 0] b139))), ce139_0)]) (by kernel_rfl) ⟨okc139_0, trivial⟩)
@[reducible] def sh102 : Shape := ⟨[(0, .one (.d .str)), (1, .one (.d .str))], []⟩
@[reducible] def out102 : Shape := ⟨[(0, .one (.d (.list .str)))], []⟩
noncomputable def b102 : Code := Tryz.f102.body.getD .skip
noncomputable def cx102 : Cx := ⟨Tryz.prog, [e139], [], 8, [], []⟩
noncomputable def F102 : ByteArray × ByteArray × Unit → Option (List ByteArray × Unit) := func cx102 Tryz.f102 b102 sh102 out102
noncomputable def e102 : FE := ⟨102, sh102, out102, F102⟩
theorem ok102 : FEOK Tryz.prog e102 := func_ok (cx := cx102) (fn := Tryz.f102) (c := b102) (all_fe (P := Tryz.prog) (l := [e139]) ⟨ok139, trivial⟩) (by kernel_rfl) (by kernel_rfl) (by kernel_rfl) (by kernel_rfl) (by kernel_rfl) (needs_of (l := []) (by kernel_rfl) trivial)
@[reducible] def sh149 : Shape := ⟨[(0, .one (.d .str))], []⟩
@[reducible] def out149 : Shape := ⟨[(0, .one (.d .bool))], []⟩
noncomputable def b149 : Code := Tryz.f149.body.getD .skip
@[reducible] def sh149_0 : Shape := ⟨[(0, .one (.d .str)), (5, .one (.d (.int .i64))), (6, .one (.d (.int .i64)))], []⟩
@[reducible] def os149_0 : List (XE × Shape) := [(.ret, ⟨[(2, .one (.d .bool))], []⟩), (.ex 0, ⟨[(0, .one (.d .str))], []⟩)]
noncomputable def cx149_0 : Cx := ⟨Tryz.prog, [], [], 22, [], []⟩
noncomputable def B149_0 : ByteArray × Int × Int × Unit → Option ((ByteArray × Int × Int × Unit) ⊕ (Bool × Unit) ⊕ (ByteArray × Unit)) := round cx149_0 (sub [1, 0, 1, 0, 0] b149) sh149_0 os149_0
noncomputable def ce149_0 : CE := ⟨sh149_0, os149_0, loop B149_0⟩
theorem okc149_0 : CEOK Tryz.prog 22 (.at (.loop (sub [1, 0, 1, 0, 0] b149))) ce149_0 := round_ok (cx := cx149_0) (fun R => step_sound (all_fe (P := Tryz.prog) (l := []) trivial) R) (needs_of (l := []) (by kernel_rfl) trivial) sh149_0 os149_0
noncomputable def cx149 : Cx := ⟨Tryz.prog, [], [], 22, [(4, ce149_0)], []⟩
noncomputable def F149 : ByteArray × Unit → Option (Bool × Unit) := func cx149 Tryz.f149 b149 sh149 out149
noncomputable def e149 : FE := ⟨149, sh149, out149, F149⟩
theorem ok149 : FEOK Tryz.prog e149 := func_ok (cx := cx149) (fn := Tryz.f149) (c := b149) (all_fe (P := Tryz.prog) (l := []) trivial) (by kernel_rfl) (by kernel_rfl) (by kernel_rfl) (by kernel_rfl) (by kernel_rfl) (needs_of (l := [((.at (.loop (sub [1, 0, 1, 0, 0] b149))), ce149_0)]) (by kernel_rfl) ⟨okc149_0, trivial⟩)
@[reducible] def sh171 : Shape := ⟨[(0, .one (.d .str))], []⟩
@[reducible] def out171 : Shape := ⟨[(0, .one (.d .bool))], []⟩
noncomputable def b171 : Code := Tryz.f171.body.getD .skip
noncomputable def cx171 : Cx := ⟨Tryz.prog, [], [], 6, [], []⟩
noncomputable def F171 : ByteArray × Unit → Option (Bool × Unit) := func cx171 Tryz.f171 b171 sh171 out171
noncomputable def e171 : FE := ⟨171, sh171, out171, F171⟩
theorem ok171 : FEOK Tryz.prog e171 := func_ok (cx := cx171) (fn := Tryz.f171) (c := b171) (all_fe (P := Tryz.prog) (l := []) trivial) (by kernel_rfl) (by kernel_rfl) (by kernel_rfl) (by kernel_rfl) (by kernel_rfl) (needs_of (l := []) (by kernel_rfl) trivial)
@[reducible] def sh150 : Shape := ⟨[(0, .one (.d .str)), (1, .one (.d .str))], []⟩
@[reducible] def out150 : Shape := ⟨[(0, .one (.d (.int .i64)))], []⟩
noncomputable def b150 : Code := Tryz.f150.body.getD .skip
noncomputable def cx150 : Cx := ⟨Tryz.prog, [e171], [], 20, [], []⟩
noncomputable def F150 : ByteArray × ByteArray × Unit → Option (Int × Unit) := func cx150 Tryz.f150 b150 sh150 out150
noncomputable def e150 : FE := ⟨150, sh150, out150, F150⟩
theorem ok150 : FEOK Tryz.prog e150 := func_ok (cx := cx150) (fn := Tryz.f150) (c := b150) (all_fe (P := Tryz.prog) (l := [e171]) ⟨ok171, trivial⟩) (by kernel_rfl) (by kernel_rfl) (by kernel_rfl) (by kernel_rfl) (by kernel_rfl) (needs_of (l := []) (by kernel_rfl) trivial)
@[reducible] def sh115 : Shape := ⟨[(0, .one (.d .str)), (1, .one (.d .str))], []⟩
@[reducible] def out115 : Shape := ⟨[(0, .one (.d (.int .i64)))], []⟩
noncomputable def b115 : Code := Tryz.f115.body.getD .skip
noncomputable def cx115 : Cx := ⟨Tryz.prog, [e66, e92, e149, e150], [], 33, [], []⟩
noncomputable def F115 : ByteArray × ByteArray × Unit → Option (Int × Unit) := func cx115 Tryz.f115 b115 sh115 out115
noncomputable def e115 : FE := ⟨115, sh115, out115, F115⟩
theorem ok115 : FEOK Tryz.prog e115 := func_ok (cx := cx115) (fn := Tryz.f115) (c := b115) (all_fe (P := Tryz.prog) (l := [e66, e92, e149, e150]) ⟨ok66, ok92, ok149, ok150, trivial⟩) (by kernel_rfl) (by kernel_rfl) (by kernel_rfl) (by kernel_rfl) (by kernel_rfl) (needs_of (l := []) (by kernel_rfl) trivial)
@[reducible] def sh114 : Shape := ⟨[(0, .one (.d (.list .str))), (1, .one (.d (.list .str))), (2, .one (.fn 115))], []⟩
@[reducible] def out114 : Shape := ⟨[(0, .one (.d (.int .i64)))], []⟩
noncomputable def b114 : Code := Tryz.f114.body.getD .skip
@[reducible] def sh114_0 : Shape := ⟨[(0, .one (.d (.list .str))), (1, .one (.d (.list .str))), (2, .one (.fn 115)), (11, .one (.d (.list .str))), (12, .one (.d (.int .i64))), (13, .one (.d (.int .i64)))], []⟩
@[reducible] def os114_0 : List (XE × Shape) := [(.ret, ⟨[(6, .one (.d (.int .i64)))], []⟩), (.ex 0, ⟨[(0, .one (.d (.list .str))), (1, .one (.d (.list .str)))], []⟩)]
noncomputable def cx114_0 : Cx := ⟨Tryz.prog, [e115], [], 39, [], []⟩
noncomputable def B114_0 : List ByteArray × List ByteArray × List ByteArray × Int × Int × Unit → Option ((List ByteArray × List ByteArray × List ByteArray × Int × Int × Unit) ⊕ (Int × Unit) ⊕ (List ByteArray × List ByteArray × Unit)) := round cx114_0 (sub [1, 0, 1, 0, 0] b114) sh114_0 os114_0
noncomputable def ce114_0 : CE := ⟨sh114_0, os114_0, loop B114_0⟩
theorem okc114_0 : CEOK Tryz.prog 39 (.at (.loop (sub [1, 0, 1, 0, 0] b114))) ce114_0 := round_ok (cx := cx114_0) (fun R => step_sound (all_fe (P := Tryz.prog) (l := [e115]) ⟨ok115, trivial⟩) R) (needs_of (l := []) (by kernel_rfl) trivial) sh114_0 os114_0
noncomputable def cx114 : Cx := ⟨Tryz.prog, [e115], [], 39, [(4, ce114_0)], []⟩
noncomputable def F114 : List ByteArray × List ByteArray × Unit → Option (Int × Unit) := func cx114 Tryz.f114 b114 sh114 out114
noncomputable def e114 : FE := ⟨114, sh114, out114, F114⟩
theorem ok114 : FEOK Tryz.prog e114 := func_ok (cx := cx114) (fn := Tryz.f114) (c := b114) (all_fe (P := Tryz.prog) (l := [e115]) ⟨ok115, trivial⟩) (by kernel_rfl) (by kernel_rfl) (by kernel_rfl) (by kernel_rfl) (by kernel_rfl) (needs_of (l := [((.at (.loop (sub [1, 0, 1, 0, 0] b114))), ce114_0)]) (by kernel_rfl) ⟨okc114_0, trivial⟩)
@[reducible] def sh93 : Shape := ⟨[(0, .one (.d .str)), (1, .one (.d .str))], []⟩
@[reducible] def out93 : Shape := ⟨[(0, .one (.d (.int .i64)))], []⟩
noncomputable def b93 : Code := Tryz.f93.body.getD .skip
noncomputable def cx93 : Cx := ⟨Tryz.prog, [e102, e114], [], 20, [], []⟩
noncomputable def F93 : ByteArray × ByteArray × Unit → Option (Int × Unit) := func cx93 Tryz.f93 b93 sh93 out93
noncomputable def e93 : FE := ⟨93, sh93, out93, F93⟩
theorem ok93 : FEOK Tryz.prog e93 := func_ok (cx := cx93) (fn := Tryz.f93) (c := b93) (all_fe (P := Tryz.prog) (l := [e102, e114]) ⟨ok102, ok114, trivial⟩) (by kernel_rfl) (by kernel_rfl) (by kernel_rfl) (by kernel_rfl) (by kernel_rfl) (needs_of (l := []) (by kernel_rfl) trivial)
@[reducible] def sh67 : Shape := ⟨[(0, .row [.d (.int .i64), .d (.int .i64), .d (.int .i64), .d .str]), (1, .row [.d (.int .i64), .d (.int .i64), .d (.int .i64), .d .str])], []⟩
@[reducible] def out67 : Shape := ⟨[(0, .one (.d (.int .i64)))], []⟩
noncomputable def b67 : Code := Tryz.f67.body.getD .skip
noncomputable def cx67 : Cx := ⟨Tryz.prog, [e66, e92, e93], [], 27, [], []⟩
noncomputable def F67 : Int × Int × Int × ByteArray × Int × Int × Int × ByteArray × Unit → Option (Int × Unit) := func cx67 Tryz.f67 b67 sh67 out67
noncomputable def e67 : FE := ⟨67, sh67, out67, F67⟩
theorem ok67 : FEOK Tryz.prog e67 := func_ok (cx := cx67) (fn := Tryz.f67) (c := b67) (all_fe (P := Tryz.prog) (l := [e66, e92, e93]) ⟨ok66, ok92, ok93, trivial⟩) (by kernel_rfl) (by kernel_rfl) (by kernel_rfl) (by kernel_rfl) (by kernel_rfl) (needs_of (l := []) (by kernel_rfl) trivial)
@[reducible] def sh40 : Shape := ⟨[(0, .row [.d (.int .i64), .d (.int .i64), .d (.int .i64), .d .str, .d .bool, .d .bool]), (1, .row [.d (.int .i64), .d (.int .i64), .d (.int .i64), .d .str, .d .bool, .d .bool])], []⟩
@[reducible] def out40 : Shape := ⟨[(0, .one (.d (.int .i64)))], []⟩
noncomputable def b40 : Code := Tryz.f40.body.getD .skip
noncomputable def cx40 : Cx := ⟨Tryz.prog, [e65, e66, e67], [], 32, [], []⟩
noncomputable def F40 : Int × Int × Int × ByteArray × Bool × Bool × Int × Int × Int × ByteArray × Bool × Bool × Unit → Option (Int × Unit) := func cx40 Tryz.f40 b40 sh40 out40
noncomputable def e40 : FE := ⟨40, sh40, out40, F40⟩
theorem ok40 : FEOK Tryz.prog e40 := func_ok (cx := cx40) (fn := Tryz.f40) (c := b40) (all_fe (P := Tryz.prog) (l := [e65, e66, e67]) ⟨ok65, ok66, ok67, trivial⟩) (by kernel_rfl) (by kernel_rfl) (by kernel_rfl) (by kernel_rfl) (by kernel_rfl) (needs_of (l := []) (by kernel_rfl) trivial)
@[reducible] def sh69 : Shape := ⟨[(0, .row [.d (.int .i64), .d (.int .i64), .d (.int .i64), .d .str, .d .bool, .d .bool, .d (.int .i64), .d (.int .i64), .d (.int .i64), .d .str, .d .bool, .d .bool])], []⟩
@[reducible] def out69 : Shape := ⟨[(0, .one (.d .bool))], []⟩
noncomputable def b69 : Code := Tryz.f69.body.getD .skip
noncomputable def cx69 : Cx := ⟨Tryz.prog, [e40], [], 9, [], []⟩
noncomputable def F69 : Int × Int × Int × ByteArray × Bool × Bool × Int × Int × Int × ByteArray × Bool × Bool × Unit → Option (Bool × Unit) := func cx69 Tryz.f69 b69 sh69 out69
noncomputable def e69 : FE := ⟨69, sh69, out69, F69⟩
theorem ok69 : FEOK Tryz.prog e69 := func_ok (cx := cx69) (fn := Tryz.f69) (c := b69) (all_fe (P := Tryz.prog) (l := [e40]) ⟨ok40, trivial⟩) (by kernel_rfl) (by kernel_rfl) (by kernel_rfl) (by kernel_rfl) (by kernel_rfl) (needs_of (l := []) (by kernel_rfl) trivial)
@[reducible] def sh74 : Shape := ⟨[(0, .one (.own 100000)), (1, .one (.fn 69))], [(100000, .lst 68 r8 false)]⟩
@[reducible] def out74 : Shape := ⟨[(0, .one (.d (.int .i64)))], [(100000, .lst 68 r8 false)]⟩
noncomputable def b74 : Code := Tryz.f74.body.getD .skip
@[reducible] def sh74_0 : Shape := ⟨[(0, .one (.own 100000)), (1, .one (.fn 69)), (7, .one (.d (.int .i64))), (8, .one (.d (.int .i64)))], [(100000, .lst 68 r8 false)]⟩
@[reducible] def os74_0 : List (XE × Shape) := [(.ret, ⟨[(4, .one (.d (.int .i64)))], [(100000, .lst 68 r8 false)]⟩), (.ex 0, ⟨[], [(100000, .lst 68 r8 false)]⟩)]
noncomputable def cx74_0 : Cx := ⟨Tryz.prog, [e69], [], 19, [], []⟩
noncomputable def B74_0 : Int × Int × List R8 × Unit → Option ((Int × Int × List R8 × Unit) ⊕ (Int × List R8 × Unit) ⊕ (List R8 × Unit)) := round cx74_0 (sub [1, 0, 1, 0, 0] b74) sh74_0 os74_0
noncomputable def ce74_0 : CE := ⟨sh74_0, os74_0, loop B74_0⟩
theorem okc74_0 : CEOK Tryz.prog 19 (.at (.loop (sub [1, 0, 1, 0, 0] b74))) ce74_0 := round_ok (cx := cx74_0) (fun R => step_sound (all_fe (P := Tryz.prog) (l := [e69]) ⟨ok69, trivial⟩) R) (needs_of (l := []) (by kernel_rfl) trivial) sh74_0 os74_0
noncomputable def cx74 : Cx := ⟨Tryz.prog, [e69], [], 19, [(4, ce74_0)], []⟩
noncomputable def F74 : List R8 × Unit → Option (Int × List R8 × Unit) := func cx74 Tryz.f74 b74 sh74 out74
noncomputable def e74 : FE := ⟨74, sh74, out74, F74⟩
theorem ok74 : FEOK Tryz.prog e74 := func_ok (cx := cx74) (fn := Tryz.f74) (c := b74) (all_fe (P := Tryz.prog) (l := [e69]) ⟨ok69, trivial⟩) (by kernel_rfl) (by kernel_rfl) (by kernel_rfl) (by kernel_rfl) (by kernel_rfl) (needs_of (l := [((.at (.loop (sub [1, 0, 1, 0, 0] b74))), ce74_0)]) (by kernel_rfl) ⟨okc74_0, trivial⟩)
@[reducible] def sh68 : Shape := ⟨[(0, .one (.own 100000)), (1, .one (.fn 69))], [(100000, .lst 68 r8 false)]⟩
@[reducible] def out68 : Shape := ⟨[(0, .one (.os 100000 12))], [(100000, .lst 68 r8 false)]⟩
noncomputable def b68 : Code := Tryz.f68.body.getD .skip
@[reducible] def sh68_0 : Shape := ⟨[(0, .one (.own 100000)), (1, .one (.fn 69)), (5, .one (.d (.int .i64))), (6, .one (.d (.int .i64)))], [(100000, .lst 68 r8 false)]⟩
@[reducible] def os68_0 : List (XE × Shape) := [(.ex 0, ⟨[(0, .one (.own 100000)), (5, .one (.d (.int .i64)))], [(100000, .lst 68 r8 false)]⟩)]
noncomputable def cx68_0 : Cx := ⟨Tryz.prog, [e69, e74], [0, 1, 2, 3, 4, 5, 6, 7, 8, 9, 10, 11, 12, 13, 14, 15, 16, 17, 18, 19, 20, 21, 22, 23, 24, 25, 26, 27, 28, 29, 30, 31, 32, 33, 34, 35, 36, 37, 38, 39, 40, 41], 42, [], []⟩
noncomputable def B68_0 : Int × Int × List R8 × Unit → Option ((Int × Int × List R8 × Unit) ⊕ Int × List R8 × Unit) := round cx68_0 (sub [1, 1, 1, 0, 1, 0, 0] b68) sh68_0 os68_0
noncomputable def ce68_0 : CE := ⟨sh68_0, os68_0, loop B68_0⟩
theorem okc68_0 : CEOK Tryz.prog 42 (.at (.loop (sub [1, 1, 1, 0, 1, 0, 0] b68))) ce68_0 := round_ok (cx := cx68_0) (fun R => step_sound (all_fe (P := Tryz.prog) (l := [e69, e74]) ⟨ok69, ok74, trivial⟩) R) (needs_of (l := []) (by kernel_rfl) trivial) sh68_0 os68_0
noncomputable def cx68 : Cx := ⟨Tryz.prog, [e69, e74], [0, 1, 2, 3, 4, 5, 6, 7, 8, 9, 10, 11, 12, 13, 14, 15, 16, 17, 18, 19, 20, 21, 22, 23, 24, 25, 26, 27, 28, 29, 30, 31, 32, 33, 34, 35, 36, 37, 38, 39, 40, 41], 42, [(10, ce68_0)], []⟩
noncomputable def F68 : List R8 × Unit → Option (Nat × Nat × List R8 × Unit) := func cx68 Tryz.f68 b68 sh68 out68
noncomputable def e68 : FE := ⟨68, sh68, out68, F68⟩
theorem ok68 : FEOK Tryz.prog e68 := func_ok (cx := cx68) (fn := Tryz.f68) (c := b68) (all_fe (P := Tryz.prog) (l := [e69, e74]) ⟨ok69, ok74, trivial⟩) (by kernel_rfl) (by kernel_rfl) (by kernel_rfl) (by kernel_rfl) (by kernel_rfl) (needs_of (l := [((.at (.loop (sub [1, 1, 1, 0, 1, 0, 0] b68))), ce68_0)]) (by kernel_rfl) ⟨okc68_0, trivial⟩)
@[reducible] def sh71 : Shape := ⟨[(0, .row [.d (.int .i64), .d (.int .i64), .d (.int .i64), .d .str, .d .bool, .d .bool, .d (.int .i64), .d (.int .i64), .d (.int .i64), .d .str, .d .bool, .d .bool]), (1, .row [.d (.int .i64), .d (.int .i64), .d (.int .i64), .d .str, .d .bool, .d .bool, .d (.int .i64), .d (.int .i64), .d (.int .i64), .d .str, .d .bool, .d .bool])], []⟩
@[reducible] def out71 : Shape := ⟨[(0, .one (.d (.int .i64)))], []⟩
noncomputable def b71 : Code := Tryz.f71.body.getD .skip
noncomputable def cx71 : Cx := ⟨Tryz.prog, [e40], [], 10, [], []⟩
noncomputable def F71 : Int × Int × Int × ByteArray × Bool × Bool × Int × Int × Int × ByteArray × Bool × Bool × Int × Int × Int × ByteArray × Bool × Bool × Int × Int × Int × ByteArray × Bool × Bool × Unit → Option (Int × Unit) := func cx71 Tryz.f71 b71 sh71 out71
noncomputable def e71 : FE := ⟨71, sh71, out71, F71⟩
theorem ok71 : FEOK Tryz.prog e71 := func_ok (cx := cx71) (fn := Tryz.f71) (c := b71) (all_fe (P := Tryz.prog) (l := [e40]) ⟨ok40, trivial⟩) (by kernel_rfl) (by kernel_rfl) (by kernel_rfl) (by kernel_rfl) (by kernel_rfl) (needs_of (l := []) (by kernel_rfl) trivial)
@[reducible] def sh72 : Shape := ⟨[(0, .one (.d (.list r7)))], []⟩
@[reducible] def out72 : Shape := ⟨[(0, .one (.d (.list r7)))], []⟩
noncomputable def b72 : Code := Tryz.f72.body.getD .skip
noncomputable def cx72 : Cx := ⟨Tryz.prog, [], [], 9, [], []⟩
noncomputable def F72 : List R7 × Unit → Option (List R7 × Unit) := func cx72 Tryz.f72 b72 sh72 out72
noncomputable def e72 : FE := ⟨72, sh72, out72, F72⟩
theorem ok72 : FEOK Tryz.prog e72 := func_ok (cx := cx72) (fn := Tryz.f72) (c := b72) (all_fe (P := Tryz.prog) (l := []) trivial) (by kernel_rfl) (by kernel_rfl) (by kernel_rfl) (by kernel_rfl) (by kernel_rfl) (needs_of (l := []) (by kernel_rfl) trivial)
@[reducible] def sh39v1 : Shape := ⟨[(0, .one (.own 100000))], [(100000, .lst 57 r7 false)]⟩
@[reducible] def out39v1 : Shape := ⟨[(0, .one (.own 200000))], [(100000, .lst 57 r7 false), (200000, .lst 68 r8 false)]⟩
noncomputable def b39v1 : Code := Tryz.f39.body.getD .skip
@[reducible] def sh39v1_0 : Shape := ⟨[(3, .one (.own 200000)), (7, .one (.own 100000)), (8, .one (.d (.int .i64))), (9, .one (.d (.int .i64)))], [(100000, .lst 57 r7 false), (200000, .lst 68 r8 false)]⟩
@[reducible] def os39v1_0 : List (XE × Shape) := [(.ex 0, ⟨[(3, .one (.own 200000))], [(100000, .lst 57 r7 false), (200000, .lst 68 r8 false)]⟩)]
noncomputable def cx39v1_0 : Cx := ⟨Tryz.prog, [], [0, 1, 2, 3, 4, 5, 6, 7, 8, 9, 10, 11, 12, 13, 14, 15, 16, 17, 18, 19, 20, 21, 22, 23, 24, 25, 26, 27, 28, 29, 30, 31, 32], 33, [], []⟩
noncomputable def B39v1_0 : Int × Int × List R7 × List R8 × Unit → Option ((Int × Int × List R7 × List R8 × Unit) ⊕ List R7 × List R8 × Unit) := round cx39v1_0 (sub [1, 1, 0, 1, 0, 0] b39v1) sh39v1_0 os39v1_0
noncomputable def ce39v1_0 : CE := ⟨sh39v1_0, os39v1_0, loop B39v1_0⟩
theorem okc39v1_0 : CEOK Tryz.prog 33 (.at (.loop (sub [1, 1, 0, 1, 0, 0] b39v1))) ce39v1_0 := round_ok (cx := cx39v1_0) (fun R => step_sound (all_fe (P := Tryz.prog) (l := []) trivial) R) (needs_of (l := []) (by kernel_rfl) trivial) sh39v1_0 os39v1_0
noncomputable def cx39v1 : Cx := ⟨Tryz.prog, [], [0, 1, 2, 3, 4, 5, 6, 7, 8, 9, 10, 11, 12, 13, 14, 15, 16, 17, 18, 19, 20, 21, 22, 23, 24, 25, 26, 27, 28, 29, 30, 31, 32], 33, [(6, ce39v1_0)], []⟩
noncomputable def F39v1 : List R7 × Unit → Option (List R7 × List R8 × Unit) := func cx39v1 Tryz.f39 b39v1 sh39v1 out39v1
noncomputable def e39v1 : FE := ⟨39, sh39v1, out39v1, F39v1⟩
theorem ok39v1 : FEOK Tryz.prog e39v1 := func_ok (cx := cx39v1) (fn := Tryz.f39) (c := b39v1) (all_fe (P := Tryz.prog) (l := []) trivial) (by kernel_rfl) (by kernel_rfl) (by kernel_rfl) (by kernel_rfl) (by kernel_rfl) (needs_of (l := [((.at (.loop (sub [1, 1, 0, 1, 0, 0] b39v1))), ce39v1_0)]) (by kernel_rfl) ⟨okc39v1_0, trivial⟩)
@[reducible] def sh73 : Shape := ⟨[(0, .one (.nilS)), (1, .one (.d (.int .i64)))], []⟩
@[reducible] def out73 : Shape := ⟨[(0, .one (.own 200000))], [(200000, .lst 57 r7 false)]⟩
noncomputable def b73 : Code := Tryz.f73.body.getD .skip
noncomputable def cx73 : Cx := ⟨Tryz.prog, [], [22, 100020, 100025], 27, [], []⟩
noncomputable def F73 : Int × Unit → Option (List R7 × Unit) := func cx73 Tryz.f73 b73 sh73 out73
noncomputable def e73 : FE := ⟨73, sh73, out73, F73⟩
theorem ok73 : FEOK Tryz.prog e73 := func_ok (cx := cx73) (fn := Tryz.f73) (c := b73) (all_fe (P := Tryz.prog) (l := []) trivial) (by kernel_rfl) (by kernel_rfl) (by kernel_rfl) (by kernel_rfl) (by kernel_rfl) (needs_of (l := []) (by kernel_rfl) trivial)
@[reducible] def sh42 : Shape := ⟨[(0, .one (.d (.list (.list r7))))], []⟩
@[reducible] def out42 : Shape := ⟨[(0, .one (.own 200000))], [(200000, .lst 57 r7 false)]⟩
noncomputable def b42 : Code := Tryz.f42.body.getD .skip
@[reducible] def sh42_0 : Shape := ⟨[(0, .one (.d (.list (.list r7)))), (3, .one (.d (.int .i64))), (9, .one (.d (.list (.list r7)))), (10, .one (.d (.int .i64))), (11, .one (.d (.int .i64)))], []⟩
@[reducible] def os42_0 : List (XE × Shape) := [(.ex 0, ⟨[(0, .one (.d (.list (.list r7)))), (3, .one (.d (.int .i64)))], []⟩)]
noncomputable def cx42_0 : Cx := ⟨Tryz.prog, [e73], [0, 1, 2, 3, 4, 5, 6, 7, 8, 9, 10, 11, 12, 13, 14, 15, 16, 17, 18, 19, 20, 21, 22, 23, 24, 25, 26, 27, 28, 29, 30, 31, 32, 33, 34, 35], 36, [], []⟩
noncomputable def B42_0 : List (List R7) × Int × List (List R7) × Int × Int × Unit → Option ((List (List R7) × Int × List (List R7) × Int × Int × Unit) ⊕ List (List R7) × Int × Unit) := round cx42_0 (sub [1, 1, 0, 1, 0, 0] b42) sh42_0 os42_0
noncomputable def ce42_0 : CE := ⟨sh42_0, os42_0, loop B42_0⟩
theorem okc42_0 : CEOK Tryz.prog 36 (.at (.loop (sub [1, 1, 0, 1, 0, 0] b42))) ce42_0 := round_ok (cx := cx42_0) (fun R => step_sound (all_fe (P := Tryz.prog) (l := [e73]) ⟨ok73, trivial⟩) R) (needs_of (l := []) (by kernel_rfl) trivial) sh42_0 os42_0
@[reducible] def sh42_1 : Shape := ⟨[(6, .one (.own 200000)), (25, .one (.d (.list (.list r7)))), (26, .one (.d (.int .i64))), (27, .one (.d (.int .i64)))], [(200000, .lst 57 r7 false)]⟩
@[reducible] def os42_1 : List (XE × Shape) := [(.ex 2, ⟨[(6, .one (.own 200000))], [(200000, .lst 57 r7 false)]⟩)]
noncomputable def cx42_1 : Cx := ⟨Tryz.prog, [e73], [0, 1, 2, 3, 4, 5, 6, 7, 8, 9, 10, 11, 12, 13, 14, 15, 16, 17, 18, 19, 20, 21, 22, 23, 24, 25, 26, 27, 28, 29, 30, 31, 32, 33, 34, 35], 36, [(6, ce42_0)], []⟩
noncomputable def B42_1 : List (List R7) × Int × Int × List R7 × Unit → Option ((List (List R7) × Int × Int × List R7 × Unit) ⊕ List R7 × Unit) := round cx42_1 (sub [1, 1, 1, 1, 0, 1, 0, 0] b42) sh42_1 os42_1
noncomputable def ce42_1 : CE := ⟨sh42_1, os42_1, loop B42_1⟩
theorem okc42_1 : CEOK Tryz.prog 36 (.at (.loop (sub [1, 1, 1, 1, 0, 1, 0, 0] b42))) ce42_1 := round_ok (cx := cx42_1) (fun R => step_sound (all_fe (P := Tryz.prog) (l := [e73]) ⟨ok73, trivial⟩) R) (needs_of (l := []) (by kernel_rfl) trivial) sh42_1 os42_1
noncomputable def cx42 : Cx := ⟨Tryz.prog, [e73], [0, 1, 2, 3, 4, 5, 6, 7, 8, 9, 10, 11, 12, 13, 14, 15, 16, 17, 18, 19, 20, 21, 22, 23, 24, 25, 26, 27, 28, 29, 30, 31, 32, 33, 34, 35], 36, [(6, ce42_0), (22, ce42_1)], []⟩
noncomputable def F42 : List (List R7) × Unit → Option (List R7 × Unit) := func cx42 Tryz.f42 b42 sh42 out42
noncomputable def e42 : FE := ⟨42, sh42, out42, F42⟩
theorem ok42 : FEOK Tryz.prog e42 := func_ok (cx := cx42) (fn := Tryz.f42) (c := b42) (all_fe (P := Tryz.prog) (l := [e73]) ⟨ok73, trivial⟩) (by kernel_rfl) (by kernel_rfl) (by kernel_rfl) (by kernel_rfl) (by kernel_rfl) (needs_of (l := [((.at (.loop (sub [1, 1, 0, 1, 0, 0] b42))), ce42_0), ((.at (.loop (sub [1, 1, 1, 1, 0, 1, 0, 0] b42))), ce42_1)]) (by kernel_rfl) ⟨okc42_0, okc42_1, trivial⟩)
@[reducible] def sh43 : Shape := ⟨[], []⟩
@[reducible] def out43 : Shape := ⟨[(0, .row [.d (.int .i64), .d (.int .i64), .d (.int .i64), .d .str])], []⟩
noncomputable def b43 : Code := Tryz.f43.body.getD .skip
noncomputable def cx43 : Cx := ⟨Tryz.prog, [], [], 2, [], []⟩
noncomputable def F43 : Unit → Option (Int × Int × Int × ByteArray × Unit) := func cx43 Tryz.f43 b43 sh43 out43
noncomputable def e43 : FE := ⟨43, sh43, out43, F43⟩
theorem ok43 : FEOK Tryz.prog e43 := func_ok (cx := cx43) (fn := Tryz.f43) (c := b43) (all_fe (P := Tryz.prog) (l := []) trivial) (by kernel_rfl) (by kernel_rfl) (by kernel_rfl) (by kernel_rfl) (by kernel_rfl) (needs_of (l := []) (by kernel_rfl) trivial)
@[reducible] def sh45 : Shape := ⟨[(0, .row [.d (.int .i64), .d (.int .i64), .d (.int .i64), .d .str, .d .bool, .d .bool, .d (.int .i64), .d (.int .i64), .d (.int .i64), .d .str, .d .bool, .d .bool]), (1, .one (.ptr 100000 0))], [(100000, .box 34 [.d (.int .i64), .d (.int .i64), .d (.int .i64), .d .str])]⟩
@[reducible] def out45 : Shape := ⟨[(0, .one (.d .bool))], [(100000, .box 34 [.d (.int .i64), .d (.int .i64), .d (.int .i64), .d .str])]⟩
noncomputable def b45 : Code := Tryz.f45.body.getD .skip
noncomputable def cx45 : Cx := ⟨Tryz.prog, [e40], [], 18, [], []⟩
noncomputable def F45 : Int × Int × Int × ByteArray × Bool × Bool × Int × Int × Int × ByteArray × Bool × Bool × Int × Int × Int × ByteArray × Unit → Option (Bool × Int × Int × Int × ByteArray × Unit) := func cx45 Tryz.f45 b45 sh45 out45
noncomputable def e45 : FE := ⟨45, sh45, out45, F45⟩
theorem ok45 : FEOK Tryz.prog e45 := func_ok (cx := cx45) (fn := Tryz.f45) (c := b45) (all_fe (P := Tryz.prog) (l := [e40]) ⟨ok40, trivial⟩) (by kernel_rfl) (by kernel_rfl) (by kernel_rfl) (by kernel_rfl) (by kernel_rfl) (needs_of (l := []) (by kernel_rfl) trivial)
@[reducible] def sh74v1 : Shape := ⟨[(0, .one (.own 100000)), (1, .one (.clo 45 [some (100001, 0)]))], [(100000, .lst 68 r8 false), (100001, .box 34 [.d (.int .i64), .d (.int .i64), .d (.int .i64), .d .str])]⟩
@[reducible] def out74v1 : Shape := ⟨[(0, .one (.d (.int .i64)))], [(100000, .lst 68 r8 false), (100001, .box 34 [.d (.int .i64), .d (.int .i64), .d (.int .i64), .d .str])]⟩
noncomputable def b74v1 : Code := Tryz.f74.body.getD .skip
@[reducible] def sh74v1_0 : Shape := ⟨[(0, .one (.own 100000)), (1, .one (.clo 45 [some (100001, 0)])), (7, .one (.d (.int .i64))), (8, .one (.d (.int .i64)))], [(100000, .lst 68 r8 false), (100001, .box 34 [.d (.int .i64), .d (.int .i64), .d (.int .i64), .d .str])]⟩
@[reducible] def os74v1_0 : List (XE × Shape) := [(.ret, ⟨[(4, .one (.d (.int .i64)))], [(100000, .lst 68 r8 false), (100001, .box 34 [.d (.int .i64), .d (.int .i64), .d (.int .i64), .d .str])]⟩), (.ex 0, ⟨[], [(100000, .lst 68 r8 false), (100001, .box 34 [.d (.int .i64), .d (.int .i64), .d (.int .i64), .d .str])]⟩)]
noncomputable def cx74v1_0 : Cx := ⟨Tryz.prog, [e45], [], 19, [], []⟩
noncomputable def B74v1_0 : Int × Int × List R8 × Int × Int × Int × ByteArray × Unit → Option ((Int × Int × List R8 × Int × Int × Int × ByteArray × Unit) ⊕ (Int × List R8 × Int × Int × Int × ByteArray × Unit) ⊕ (List R8 × Int × Int × Int × ByteArray × Unit)) := round cx74v1_0 (sub [1, 0, 1, 0, 0] b74v1) sh74v1_0 os74v1_0
noncomputable def ce74v1_0 : CE := ⟨sh74v1_0, os74v1_0, loop B74v1_0⟩
theorem okc74v1_0 : CEOK Tryz.prog 19 (.at (.loop (sub [1, 0, 1, 0, 0] b74v1))) ce74v1_0 := round_ok (cx := cx74v1_0) (fun R => step_sound (all_fe (P := Tryz.prog) (l := [e45]) ⟨ok45, trivial⟩) R) (needs_of (l := []) (by kernel_rfl) trivial) sh74v1_0 os74v1_0
noncomputable def cx74v1 : Cx := ⟨Tryz.prog, [e45], [], 19, [(4, ce74v1_0)], []⟩
noncomputable def F74v1 : List R8 × Int × Int × Int × ByteArray × Unit → Option (Int × List R8 × Int × Int × Int × ByteArray × Unit) := func cx74v1 Tryz.f74 b74v1 sh74v1 out74v1
noncomputable def e74v1 : FE := ⟨74, sh74v1, out74v1, F74v1⟩
theorem ok74v1 : FEOK Tryz.prog e74v1 := func_ok (cx := cx74v1) (fn := Tryz.f74) (c := b74v1) (all_fe (P := Tryz.prog) (l := [e45]) ⟨ok45, trivial⟩) (by kernel_rfl) (by kernel_rfl) (by kernel_rfl) (by kernel_rfl) (by kernel_rfl) (needs_of (l := [((.at (.loop (sub [1, 0, 1, 0, 0] b74v1))), ce74v1_0)]) (by kernel_rfl) ⟨okc74v1_0, trivial⟩)
@[reducible] def sh44 : Shape := ⟨[(0, .one (.own 100000)), (1, .one (.clo 45 [some (100001, 0)]))], [(100000, .lst 68 r8 false), (100001, .box 34 [.d (.int .i64), .d (.int .i64), .d (.int .i64), .d .str])]⟩
@[reducible] def out44 : Shape := ⟨[(0, .one (.d .bool))], [(100000, .lst 68 r8 false), (100001, .box 34 [.d (.int .i64), .d (.int .i64), .d (.int .i64), .d .str])]⟩
noncomputable def b44 : Code := Tryz.f44.body.getD .skip
noncomputable def cx44 : Cx := ⟨Tryz.prog, [e74v1], [], 9, [], []⟩
noncomputable def F44 : List R8 × Int × Int × Int × ByteArray × Unit → Option (Bool × List R8 × Int × Int × Int × ByteArray × Unit) := func cx44 Tryz.f44 b44 sh44 out44
noncomputable def e44 : FE := ⟨44, sh44, out44, F44⟩
theorem ok44 : FEOK Tryz.prog e44 := func_ok (cx := cx44) (fn := Tryz.f44) (c := b44) (all_fe (P := Tryz.prog) (l := [e74v1]) ⟨ok74v1, trivial⟩) (by kernel_rfl) (by kernel_rfl) (by kernel_rfl) (by kernel_rfl) (by kernel_rfl) (needs_of (l := []) (by kernel_rfl) trivial)
@[reducible] def sh24 : Shape := ⟨[(0, .one (.d (.list r7))), (1, .row [.d (.int .i64), .d (.int .i64), .d (.int .i64), .d .str])], []⟩
@[reducible] def out24 : Shape := ⟨[(0, .one (.d .bool))], []⟩
noncomputable def b24 : Code := Tryz.f24.body.getD .skip
noncomputable def cx24 : Cx := ⟨Tryz.prog, [e39, e44], [], 9, [], []⟩
noncomputable def F24 : List R7 × Int × Int × Int × ByteArray × Unit → Option (Bool × Unit) := func cx24 Tryz.f24 b24 sh24 out24
noncomputable def e24 : FE := ⟨24, sh24, out24, F24⟩
theorem ok24 : FEOK Tryz.prog e24 := func_ok (cx := cx24) (fn := Tryz.f24) (c := b24) (all_fe (P := Tryz.prog) (l := [e39, e44]) ⟨ok39, ok44, trivial⟩) (by kernel_rfl) (by kernel_rfl) (by kernel_rfl) (by kernel_rfl) (by kernel_rfl) (needs_of (l := []) (by kernel_rfl) trivial)
@[reducible] def sh50 : Shape := ⟨[(0, .one (.d .str))], []⟩
@[reducible] def out50 : Shape := ⟨[(0, .one (.ptr 200000 0))], [(200000, .box 107 [.d .str, .d (.int .i64)])]⟩
noncomputable def b50 : Code := Tryz.f50.body.getD .skip
noncomputable def cx50 : Cx := ⟨Tryz.prog, [], [], 7, [], []⟩
noncomputable def F50 : ByteArray × Unit → Option (ByteArray × Int × Unit) := func cx50 Tryz.f50 b50 sh50 out50
noncomputable def e50 : FE := ⟨50, sh50, out50, F50⟩
theorem ok50 : FEOK Tryz.prog e50 := func_ok (cx := cx50) (fn := Tryz.f50) (c := b50) (all_fe (P := Tryz.prog) (l := []) trivial) (by kernel_rfl) (by kernel_rfl) (by kernel_rfl) (by kernel_rfl) (by kernel_rfl) (needs_of (l := []) (by kernel_rfl) trivial)
@[reducible] def sh77 : Shape := ⟨[], []⟩
@[reducible] def out77 : Shape := ⟨[(0, .one (.d (.list r7)))], []⟩
noncomputable def b77 : Code := Tryz.f77.body.getD .skip
noncomputable def cx77 : Cx := ⟨Tryz.prog, [e43], [], 4, [], []⟩
noncomputable def F77 : Unit → Option (List R7 × Unit) := func cx77 Tryz.f77 b77 sh77 out77
noncomputable def e77 : FE := ⟨77, sh77, out77, F77⟩
theorem ok77 : FEOK Tryz.prog e77 := func_ok (cx := cx77) (fn := Tryz.f77) (c := b77) (all_fe (P := Tryz.prog) (l := [e43]) ⟨ok43, trivial⟩) (by kernel_rfl) (by kernel_rfl) (by kernel_rfl) (by kernel_rfl) (by kernel_rfl) (needs_of (l := []) (by kernel_rfl) trivial)
@[reducible] def sh106 : Shape := ⟨[(0, .one (.d .str)), (1, .one (.d .str))], []⟩
@[reducible] def out106 : Shape := ⟨[(0, .one (.d .bool))], []⟩
noncomputable def b106 : Code := Tryz.f106.body.getD .skip
noncomputable def cx106 : Cx := ⟨Tryz.prog, [], [], 18, [], []⟩
noncomputable def F106 : ByteArray × ByteArray × Unit → Option (Bool × Unit) := func cx106 Tryz.f106 b106 sh106 out106
noncomputable def e106 : FE := ⟨106, sh106, out106, F106⟩
theorem ok106 : FEOK Tryz.prog e106 := func_ok (cx := cx106) (fn := Tryz.f106) (c := b106) (all_fe (P := Tryz.prog) (l := []) trivial) (by kernel_rfl) (by kernel_rfl) (by kernel_rfl) (by kernel_rfl) (by kernel_rfl) (needs_of (l := []) (by kernel_rfl) trivial)
@[reducible] def sh82 : Shape := ⟨[(0, .one (.d .str)), (1, .one (.d .str))], []⟩
@[reducible] def out82 : Shape := ⟨[(0, .one (.d .bool))], []⟩
noncomputable def b82 : Code := Tryz.f82.body.getD .skip
noncomputable def cx82 : Cx := ⟨Tryz.prog, [e106], [], 8, [], []⟩
noncomputable def F82 : ByteArray × ByteArray × Unit → Option (Bool × Unit) := func cx82 Tryz.f82 b82 sh82 out82
noncomputable def e82 : FE := ⟨82, sh82, out82, F82⟩
theorem ok82 : FEOK Tryz.prog e82 := func_ok (cx := cx82) (fn := Tryz.f82) (c := b82) (all_fe (P := Tryz.prog) (l := [e106]) ⟨ok106, trivial⟩) (by kernel_rfl) (by kernel_rfl) (by kernel_rfl) (by kernel_rfl) (by kernel_rfl) (needs_of (l := []) (by kernel_rfl) trivial)
@[reducible] def sh52 : Shape := ⟨[(0, .one (.ptr 100000 0)), (1, .one (.d .str))], [(100000, .box 107 [.d .str, .d (.int .i64)])]⟩
@[reducible] def out52 : Shape := ⟨[(0, .one (.d .bool))], [(100000, .box 107 [.d .str, .d (.int .i64)])]⟩
noncomputable def b52 : Code := Tryz.f52.body.getD .skip
noncomputable def cx52 : Cx := ⟨Tryz.prog, [e82], [], 29, [], []⟩
noncomputable def F52 : ByteArray × ByteArray × Int × Unit → Option (Bool × ByteArray × Int × Unit) := func cx52 Tryz.f52 b52 sh52 out52
noncomputable def e52 : FE := ⟨52, sh52, out52, F52⟩
theorem ok52 : FEOK Tryz.prog e52 := func_ok (cx := cx52) (fn := Tryz.f52) (c := b52) (all_fe (P := Tryz.prog) (l := [e82]) ⟨ok82, trivial⟩) (by kernel_rfl) (by kernel_rfl) (by kernel_rfl) (by kernel_rfl) (by kernel_rfl) (needs_of (l := []) (by kernel_rfl) trivial)
@[reducible] def sh140 : Shape := ⟨[(0, .one (.d .str))], []⟩
@[reducible] def out140 : Shape := ⟨[(0, .one (.d .str))], []⟩
noncomputable def b140 : Code := Tryz.f140.body.getD .skip
noncomputable def cx140 : Cx := ⟨Tryz.prog, [], [9], 18, [], []⟩
noncomputable def F140 : ByteArray × Unit → Option (ByteArray × Unit) := func cx140 Tryz.f140 b140 sh140 out140
noncomputable def e140 : FE := ⟨140, sh140, out140, F140⟩
theorem ok140 : FEOK Tryz.prog e140 := func_ok (cx := cx140) (fn := Tryz.f140) (c := b140) (all_fe (P := Tryz.prog) (l := []) trivial) (by kernel_rfl) (by kernel_rfl) (by kernel_rfl) (by kernel_rfl) (by kernel_rfl) (needs_of (l := []) (by kernel_rfl) trivial)
@[reducible] def sh104 : Shape := ⟨[(0, .one (.d .str))], []⟩
@[reducible] def out104 : Shape := ⟨[(0, .one (.d .str))], []⟩
noncomputable def b104 : Code := Tryz.f104.body.getD .skip
noncomputable def cx104 : Cx := ⟨Tryz.prog, [e140], [], 5, [], []⟩
noncomputable def F104 : ByteArray × Unit → Option (ByteArray × Unit) := func cx104 Tryz.f104 b104 sh104 out104
noncomputable def e104 : FE := ⟨104, sh104, out104, F104⟩
theorem ok104 : FEOK Tryz.prog e104 := func_ok (cx := cx104) (fn := Tryz.f104) (c := b104) (all_fe (P := Tryz.prog) (l := [e140]) ⟨ok140, trivial⟩) (by kernel_rfl) (by kernel_rfl) (by kernel_rfl) (by kernel_rfl) (by kernel_rfl) (needs_of (l := []) (by kernel_rfl) trivial)
@[reducible] def sh133 : Shape := ⟨[(0, .one (.d .str)), (1, .one (.d (.int .u8)))], []⟩
@[reducible] def out133 : Shape := ⟨[(0, .one (.d (.int .i64)))], []⟩
noncomputable def b133 : Code := Tryz.f133.body.getD .skip
noncomputable def cx133 : Cx := ⟨Tryz.prog, [e161], [], 8, [], []⟩
noncomputable def F133 : ByteArray × Int × Unit → Option (Int × Unit) := func cx133 Tryz.f133 b133 sh133 out133
noncomputable def e133 : FE := ⟨133, sh133, out133, F133⟩
theorem ok133 : FEOK Tryz.prog e133 := func_ok (cx := cx133) (fn := Tryz.f133) (c := b133) (all_fe (P := Tryz.prog) (l := [e161]) ⟨ok161, trivial⟩) (by kernel_rfl) (by kernel_rfl) (by kernel_rfl) (by kernel_rfl) (by kernel_rfl) (needs_of (l := []) (by kernel_rfl) trivial)
@[reducible] def sh156 : Shape := ⟨[(0, .one (.ptr 100000 0))], [(100000, .box 107 [.d .str, .d (.int .i64)])]⟩
@[reducible] def out156 : Shape := ⟨[(0, .one (.d (.int .u8))), (1, .one (.d .bool))], [(100000, .box 107 [.d .str, .d (.int .i64)])]⟩
noncomputable def b156 : Code := Tryz.f156.body.getD .skip
noncomputable def cx156 : Cx := ⟨Tryz.prog, [], [], 23, [], []⟩
noncomputable def F156 : ByteArray × Int × Unit → Option (Int × Bool × ByteArray × Int × Unit) := func cx156 Tryz.f156 b156 sh156 out156
noncomputable def e156 : FE := ⟨156, sh156, out156, F156⟩
theorem ok156 : FEOK Tryz.prog e156 := func_ok (cx := cx156) (fn := Tryz.f156) (c := b156) (all_fe (P := Tryz.prog) (l := []) trivial) (by kernel_rfl) (by kernel_rfl) (by kernel_rfl) (by kernel_rfl) (by kernel_rfl) (needs_of (l := []) (by kernel_rfl) trivial)
@[reducible] def sh126 : Shape := ⟨[(0, .one (.ptr 100000 0)), (1, .one (.d .str))], [(100000, .box 107 [.d .str, .d (.int .i64)])]⟩
@[reducible] def out126 : Shape := ⟨[(0, .one (.d .str))], [(100000, .box 107 [.d .str, .d (.int .i64)])]⟩
noncomputable def b126 : Code := Tryz.f126.body.getD .skip
@[reducible] def sh126_0 : Shape := ⟨[(0, .one (.ptr 100000 0)), (1, .one (.d .str)), (5, .one (.d (.int .i64))), (6, .one (.d (.int .u8))), (7, .one (.d .bool))], [(100000, .box 107 [.d .str, .d (.int .i64)])]⟩
@[reducible] def os126_0 : List (XE × Shape) := [(.ex 0, ⟨[(0, .one (.ptr 100000 0)), (5, .one (.d (.int .i64)))], [(100000, .box 107 [.d .str, .d (.int .i64)])]⟩)]
noncomputable def cx126_0 : Cx := ⟨Tryz.prog, [e104, e133, e156], [], 56, [], []⟩
noncomputable def B126_0 : ByteArray × Int × Int × Bool × ByteArray × Int × Unit → Option ((ByteArray × Int × Int × Bool × ByteArray × Int × Unit) ⊕ Int × ByteArray × Int × Unit) := round cx126_0 (sub [1, 1, 0, 1, 0, 0] b126) sh126_0 os126_0
noncomputable def ce126_0 : CE := ⟨sh126_0, os126_0, loop B126_0⟩
theorem okc126_0 : CEOK Tryz.prog 56 (.at (.loop (sub [1, 1, 0, 1, 0, 0] b126))) ce126_0 := round_ok (cx := cx126_0) (fun R => step_sound (all_fe (P := Tryz.prog) (l := [e104, e133, e156]) ⟨ok104, ok133, ok156, trivial⟩) R) (needs_of (l := []) (by kernel_rfl) trivial) sh126_0 os126_0
noncomputable def cx126 : Cx := ⟨Tryz.prog, [e104, e133, e156], [], 56, [(6, ce126_0)], []⟩
noncomputable def F126 : ByteArray × ByteArray × Int × Unit → Option (ByteArray × ByteArray × Int × Unit) := func cx126 Tryz.f126 b126 sh126 out126
noncomputable def e126 : FE := ⟨126, sh126, out126, F126⟩
theorem ok126 : FEOK Tryz.prog e126 := func_ok (cx := cx126) (fn := Tryz.f126) (c := b126) (all_fe (P := Tryz.prog) (l := [e104, e133, e156]) ⟨ok104, ok133, ok156, trivial⟩) (by kernel_rfl) (by kernel_rfl) (by kernel_rfl) (by kernel_rfl) (by kernel_rfl) (needs_of (l := [((.at (.loop (sub [1, 1, 0, 1, 0, 0] b126))), ce126_0)]) (by kernel_rfl) ⟨okc126_0, trivial⟩)
@[reducible] def sh96 : Shape := ⟨[(0, .one (.ptr 100000 0))], [(100000, .box 80 [.ptr 100001 0, .d .str, .d .str, .d (.int .i64)]), (100001, .box 107 [.d .str, .d (.int .i64)])]⟩
@[reducible] def out96 : Shape := ⟨[], [(100000, .box 80 [.ptr 100001 0, .d .str, .d .str, .d (.int .i64)]), (100001, .box 107 [.d .str, .d (.int .i64)])]⟩
noncomputable def b96 : Code := Tryz.f96.body.getD .skip
noncomputable def cx96 : Cx := ⟨Tryz.prog, [e126], [], 7, [], []⟩
noncomputable def F96 : ByteArray × ByteArray × Int × ByteArray × Int × Unit → Option (ByteArray × ByteArray × Int × ByteArray × Int × Unit) := func cx96 Tryz.f96 b96 sh96 out96
noncomputable def e96 : FE := ⟨96, sh96, out96, F96⟩
theorem ok96 : FEOK Tryz.prog e96 := func_ok (cx := cx96) (fn := Tryz.f96) (c := b96) (all_fe (P := Tryz.prog) (l := [e126]) ⟨ok126, trivial⟩) (by kernel_rfl) (by kernel_rfl) (by kernel_rfl) (by kernel_rfl) (by kernel_rfl) (needs_of (l := []) (by kernel_rfl) trivial)
@[reducible] def sh78 : Shape := ⟨[(0, .one (.ptr 100000 0))], [(100000, .box 80 [.ptr 100001 0, .d .str, .d .str, .d (.int .i64)]), (100001, .box 107 [.d .str, .d (.int .i64)])]⟩
@[reducible] def out78 : Shape := ⟨[(0, .one (.d .bool))], [(100000, .box 80 [.ptr 100001 0, .d .str, .d .str, .d (.int .i64)]), (100001, .box 107 [.d .str, .d (.int .i64)])]⟩
noncomputable def b78 : Code := Tryz.f78.body.getD .skip
noncomputable def cx78 : Cx := ⟨Tryz.prog, [e52, e96, e97], [], 69, [], []⟩
noncomputable def F78 : ByteArray × ByteArray × Int × ByteArray × Int × Unit → Option (Bool × ByteArray × ByteArray × Int × ByteArray × Int × Unit) := func cx78 Tryz.f78 b78 sh78 out78
noncomputable def e78 : FE := ⟨78, sh78, out78, F78⟩
theorem ok78 : FEOK Tryz.prog e78 := func_ok (cx := cx78) (fn := Tryz.f78) (c := b78) (all_fe (P := Tryz.prog) (l := [e52, e96, e97]) ⟨ok52, ok96, ok97, trivial⟩) (by kernel_rfl) (by kernel_rfl) (by kernel_rfl) (by kernel_rfl) (by kernel_rfl) (needs_of (l := []) (by kernel_rfl) trivial)
@[reducible] def sh137 : Shape := ⟨[(0, .one (.d .str)), (1, .one (.d .str))], []⟩
@[reducible] def out137 : Shape := ⟨[(0, .one (.d .str)), (1, .one (.d .bool))], []⟩
noncomputable def b137 : Code := Tryz.f137.body.getD .skip
noncomputable def cx137 : Cx := ⟨Tryz.prog, [e106], [], 15, [], []⟩
noncomputable def F137 : ByteArray × ByteArray × Unit → Option (ByteArray × Bool × Unit) := func cx137 Tryz.f137 b137 sh137 out137
noncomputable def e137 : FE := ⟨137, sh137, out137, F137⟩
theorem ok137 : FEOK Tryz.prog e137 := func_ok (cx := cx137) (fn := Tryz.f137) (c := b137) (all_fe (P := Tryz.prog) (l := [e106]) ⟨ok106, trivial⟩) (by kernel_rfl) (by kernel_rfl) (by kernel_rfl) (by kernel_rfl) (by kernel_rfl) (needs_of (l := []) (by kernel_rfl) trivial)
@[reducible] def sh100 : Shape := ⟨[(0, .one (.d .str)), (1, .one (.d .str))], []⟩
@[reducible] def out100 : Shape := ⟨[(0, .one (.d .str)), (1, .one (.d .bool))], []⟩
noncomputable def b100 : Code := Tryz.f100.body.getD .skip
noncomputable def cx100 : Cx := ⟨Tryz.prog, [e137], [], 11, [], []⟩
noncomputable def F100 : ByteArray × ByteArray × Unit → Option (ByteArray × Bool × Unit) := func cx100 Tryz.f100 b100 sh100 out100
noncomputable def e100 : FE := ⟨100, sh100, out100, F100⟩
theorem ok100 : FEOK Tryz.prog e100 := func_ok (cx := cx100) (fn := Tryz.f100) (c := b100) (all_fe (P := Tryz.prog) (l := [e137]) ⟨ok137, trivial⟩) (by kernel_rfl) (by kernel_rfl) (by kernel_rfl) (by kernel_rfl) (by kernel_rfl) (needs_of (l := []) (by kernel_rfl) trivial)
@[reducible] def sh103 : Shape := ⟨[(0, .one (.d .str))], []⟩
@[reducible] def out103 : Shape := ⟨[(0, .one (.d (.int .i64))), (1, .one (.d .bool))], []⟩
noncomputable def b103 : Code := Tryz.f103.body.getD .skip
@[reducible] def sh103_0 : Shape := ⟨[(0, .one (.d .str)), (4, .one (.d (.int .i64))), (25, .one (.d (.int .i64))), (26, .one (.d (.int .i64)))], []⟩
@[reducible] def os103_0 : List (XE × Shape) := [(.ret, ⟨[(2, .one (.d (.int .i64))), (3, .one (.d .bool))], []⟩), (.ex 0, ⟨[(4, .one (.d (.int .i64)))], []⟩)]
noncomputable def cx103_0 : Cx := ⟨Tryz.prog, [], [], 49, [], []⟩
noncomputable def B103_0 : ByteArray × Int × Int × Int × Unit → Option ((ByteArray × Int × Int × Int × Unit) ⊕ (Int × Bool × Unit) ⊕ (Int × Unit)) := round cx103_0 (sub [1, 1, 1, 0, 1, 0, 0] b103) sh103_0 os103_0
noncomputable def ce103_0 : CE := ⟨sh103_0, os103_0, loop B103_0⟩
theorem okc103_0 : CEOK Tryz.prog 49 (.at (.loop (sub [1, 1, 1, 0, 1, 0, 0] b103))) ce103_0 := round_ok (cx := cx103_0) (fun R => step_sound (all_fe (P := Tryz.prog) (l := []) trivial) R) (needs_of (l := []) (by kernel_rfl) trivial) sh103_0 os103_0
noncomputable def cx103 : Cx := ⟨Tryz.prog, [], [], 49, [(10, ce103_0)], []⟩
noncomputable def F103 : ByteArray × Unit → Option (Int × Bool × Unit) := func cx103 Tryz.f103 b103 sh103 out103
noncomputable def e103 : FE := ⟨103, sh103, out103, F103⟩
theorem ok103 : FEOK Tryz.prog e103 := func_ok (cx := cx103) (fn := Tryz.f103) (c := b103) (all_fe (P := Tryz.prog) (l := []) trivial) (by kernel_rfl) (by kernel_rfl) (by kernel_rfl) (by kernel_rfl) (by kernel_rfl) (needs_of (l := [((.at (.loop (sub [1, 1, 1, 0, 1, 0, 0] b103))), ce103_0)]) (by kernel_rfl) ⟨okc103_0, trivial⟩)
@[reducible] def sh173 : Shape := ⟨[(0, .one (.d .str)), (1, .one (.d .str))], []⟩
@[reducible] def out173 : Shape := ⟨[(0, .one (.d .bool))], []⟩
noncomputable def b173 : Code := Tryz.f173.body.getD .skip
noncomputable def cx173 : Cx := ⟨Tryz.prog, [], [], 21, [], []⟩
noncomputable def F173 : ByteArray × ByteArray × Unit → Option (Bool × Unit) := func cx173 Tryz.f173 b173 sh173 out173
noncomputable def e173 : FE := ⟨173, sh173, out173, F173⟩
theorem ok173 : FEOK Tryz.prog e173 := func_ok (cx := cx173) (fn := Tryz.f173) (c := b173) (all_fe (P := Tryz.prog) (l := []) trivial) (by kernel_rfl) (by kernel_rfl) (by kernel_rfl) (by kernel_rfl) (by kernel_rfl) (needs_of (l := []) (by kernel_rfl) trivial)
@[reducible] def sh160 : Shape := ⟨[(0, .one (.d .str)), (1, .one (.d .str))], []⟩
@[reducible] def out160 : Shape := ⟨[(0, .one (.d .str)), (1, .one (.d .bool))], []⟩
noncomputable def b160 : Code := Tryz.f160.body.getD .skip
noncomputable def cx160 : Cx := ⟨Tryz.prog, [e173], [], 18, [], []⟩
noncomputable def F160 : ByteArray × ByteArray × Unit → Option (ByteArray × Bool × Unit) := func cx160 Tryz.f160 b160 sh160 out160
noncomputable def e160 : FE := ⟨160, sh160, out160, F160⟩
theorem ok160 : FEOK Tryz.prog e160 := func_ok (cx := cx160) (fn := Tryz.f160) (c := b160) (all_fe (P := Tryz.prog) (l := [e173]) ⟨ok173, trivial⟩) (by kernel_rfl) (by kernel_rfl) (by kernel_rfl) (by kernel_rfl) (by kernel_rfl) (needs_of (l := []) (by kernel_rfl) trivial)
@[reducible] def sh131 : Shape := ⟨[(0, .one (.d .str)), (1, .one (.d .str))], []⟩
@[reducible] def out131 : Shape := ⟨[(0, .one (.d .str)), (1, .one (.d .bool))], []⟩
noncomputable def b131 : Code := Tryz.f131.body.getD .skip
noncomputable def cx131 : Cx := ⟨Tryz.prog, [e160], [], 11, [], []⟩
noncomputable def F131 : ByteArray × ByteArray × Unit → Option (ByteArray × Bool × Unit) := func cx131 Tryz.f131 b131 sh131 out131
noncomputable def e131 : FE := ⟨131, sh131, out131, F131⟩
theorem ok131 : FEOK Tryz.prog e131 := func_ok (cx := cx131) (fn := Tryz.f131) (c := b131) (all_fe (P := Tryz.prog) (l := [e160]) ⟨ok160, trivial⟩) (by kernel_rfl) (by kernel_rfl) (by kernel_rfl) (by kernel_rfl) (by kernel_rfl) (needs_of (l := []) (by kernel_rfl) trivial)
@[reducible] def sh132 : Shape := ⟨[(0, .row [.d (.int .i64), .d (.int .i64), .d (.int .i64), .d .str]), (1, .one (.d (.int .i64)))], []⟩
@[reducible] def out132 : Shape := ⟨[(0, .row [.d (.int .i64), .d (.int .i64), .d (.int .i64), .d .str, .d .bool, .d .bool])], []⟩
noncomputable def b132 : Code := Tryz.f132.body.getD .skip
@[reducible] def sh132_0 : Shape := ⟨[(1, .one (.d (.int .i64))), (4, .one (.ptr 200000 0)), (5, .one (.ptr 200001 0)), (6, .one (.d (.int .i64)))], [(200000, .box 66 [.d (.int .i64), .d (.int .i64), .d (.int .i64), .d .str, .d .bool, .d .bool]), (200001, .box 92 [.d (.int .i64), .d (.int .i64), .d (.int .i64)])]⟩
@[reducible] def os132_0 : List (XE × Shape) := [(.ex 0, ⟨[(1, .one (.d (.int .i64))), (4, .one (.ptr 200000 0)), (5, .one (.ptr 200001 0))], [(200000, .box 66 [.d (.int .i64), .d (.int .i64), .d (.int .i64), .d .str, .d .bool, .d .bool]), (200001, .box 92 [.d (.int .i64), .d (.int .i64), .d (.int .i64)])]⟩)]
noncomputable def cx132_0 : Cx := ⟨Tryz.prog, [], [], 46, [], []⟩
noncomputable def B132_0 : Int × Int × Int × Int × Int × ByteArray × Bool × Bool × Int × Int × Int × Unit → Option ((Int × Int × Int × Int × Int × ByteArray × Bool × Bool × Int × Int × Int × Unit) ⊕ Int × Int × Int × Int × ByteArray × Bool × Bool × Int × Int × Int × Unit) := round cx132_0 (sub [1, 1, 0, 1, 0, 0] b132) sh132_0 os132_0
noncomputable def ce132_0 : CE := ⟨sh132_0, os132_0, loop B132_0⟩
theorem okc132_0 : CEOK Tryz.prog 46 (.at (.loop (sub [1, 1, 0, 1, 0, 0] b132))) ce132_0 := round_ok (cx := cx132_0) (fun R => step_sound (all_fe (P := Tryz.prog) (l := []) trivial) R) (needs_of (l := []) (by kernel_rfl) trivial) sh132_0 os132_0
@[reducible] def sh132_1 : Shape := ⟨[(1, .one (.d (.int .i64))), (4, .one (.ptr 200000 0)), (5, .one (.ptr 200001 0))], [(200000, .box 66 [.d (.int .i64), .d (.int .i64), .d (.int .i64), .d .str, .d .bool, .d .bool]), (200001, .box 92 [.d (.int .i64), .d (.int .i64), .d (.int .i64)])]⟩
@[reducible] def os132_1 : List (XE × Shape) := [(.ret, ⟨[(4, .one (.ptr 200000 0))], [(200000, .box 66 [.d (.int .i64), .d (.int .i64), .d (.int .i64), .d .str, .d .bool, .d .bool])]⟩), (.ex 2, ⟨[(4, .one (.ptr 200000 0))], [(200000, .box 66 [.d (.int .i64), .d (.int .i64), .d (.int .i64), .d .str, .d .bool, .d .bool])]⟩)]
noncomputable def cx132_1 : Cx := ⟨Tryz.prog, [], [], 46, [(6, ce132_0)], []⟩
noncomputable def B132_1 : Int × Int × Int × Int × ByteArray × Bool × Bool × Int × Int × Int × Unit → Option ((Int × Int × Int × Int × ByteArray × Bool × Bool × Int × Int × Int × Unit) ⊕ (Int × Int × Int × ByteArray × Bool × Bool × Unit) ⊕ (Int × Int × Int × ByteArray × Bool × Bool × Unit)) := round cx132_1 (sub [1, 1, 1, 0, 0, 0] b132) sh132_1 os132_1
noncomputable def ce132_1 : CE := ⟨sh132_1, os132_1, loop B132_1⟩
theorem okc132_1 : CEOK Tryz.prog 46 (.at (.loop (sub [1, 1, 1, 0, 0, 0] b132))) ce132_1 := round_ok (cx := cx132_1) (fun R => step_sound (all_fe (P := Tryz.prog) (l := []) trivial) R) (needs_of (l := []) (by kernel_rfl) trivial) sh132_1 os132_1
noncomputable def cx132 : Cx := ⟨Tryz.prog, [], [], 46, [(6, ce132_0), (12, ce132_1)], []⟩
noncomputable def F132 : Int × Int × Int × ByteArray × Int × Unit → Option (Int × Int × Int × ByteArray × Bool × Bool × Unit) := func cx132 Tryz.f132 b132 sh132 out132
noncomputable def e132 : FE := ⟨132, sh132, out132, F132⟩
theorem ok132 : FEOK Tryz.prog e132 := func_ok (cx := cx132) (fn := Tryz.f132) (c := b132) (all_fe (P := Tryz.prog) (l := []) trivial) (by kernel_rfl) (by kernel_rfl) (by kernel_rfl) (by kernel_rfl) (by kernel_rfl) (needs_of (l := [((.at (.loop (sub [1, 1, 0, 1, 0, 0] b132))), ce132_0), ((.at (.loop (sub [1, 1, 1, 0, 0, 0] b132))), ce132_1)]) (by kernel_rfl) ⟨okc132_0, okc132_1, trivial⟩)
@[reducible] def sh134 : Shape := ⟨[], []⟩
@[reducible] def out134 : Shape := ⟨[(0, .row [.d (.int .i64), .d (.int .i64), .d (.int .i64), .d .str, .d .bool, .d .bool])], []⟩
noncomputable def b134 : Code := Tryz.f134.body.getD .skip
noncomputable def cx134 : Cx := ⟨Tryz.prog, [], [], 2, [], []⟩
noncomputable def F134 : Unit → Option (Int × Int × Int × ByteArray × Bool × Bool × Unit) := func cx134 Tryz.f134 b134 sh134 out134
noncomputable def e134 : FE := ⟨134, sh134, out134, F134⟩
theorem ok134 : FEOK Tryz.prog e134 := func_ok (cx := cx134) (fn := Tryz.f134) (c := b134) (all_fe (P := Tryz.prog) (l := []) trivial) (by kernel_rfl) (by kernel_rfl) (by kernel_rfl) (by kernel_rfl) (by kernel_rfl) (needs_of (l := []) (by kernel_rfl) trivial)
@[reducible] def sh135 : Shape := ⟨[], []⟩
@[reducible] def out135 : Shape := ⟨[(0, .row [.d (.int .i64), .d (.int .i64), .d (.int .i64), .d .str, .d .bool, .d .bool])], []⟩
noncomputable def b135 : Code := Tryz.f135.body.getD .skip
noncomputable def cx135 : Cx := ⟨Tryz.prog, [e43], [], 3, [], []⟩
noncomputable def F135 : Unit → Option (Int × Int × Int × ByteArray × Bool × Bool × Unit) := func cx135 Tryz.f135 b135 sh135 out135
noncomputable def e135 : FE := ⟨135, sh135, out135, F135⟩
theorem ok135 : FEOK Tryz.prog e135 := func_ok (cx := cx135) (fn := Tryz.f135) (c := b135) (all_fe (P := Tryz.prog) (l := [e43]) ⟨ok43, trivial⟩) (by kernel_rfl) (by kernel_rfl) (by kernel_rfl) (by kernel_rfl) (by kernel_rfl) (needs_of (l := []) (by kernel_rfl) trivial)
@[reducible] def sh136 : Shape := ⟨[(0, .row [.d (.int .i64), .d (.int .i64), .d (.int .i64), .d .str])], []⟩
@[reducible] def out136 : Shape := ⟨[(0, .row [.d (.int .i64), .d (.int .i64), .d (.int .i64), .d .str, .d .bool, .d .bool])], []⟩
noncomputable def b136 : Code := Tryz.f136.body.getD .skip
noncomputable def cx136 : Cx := ⟨Tryz.prog, [e132], [], 17, [], []⟩
noncomputable def F136 : Int × Int × Int × ByteArray × Unit → Option (Int × Int × Int × ByteArray × Bool × Bool × Unit) := func cx136 Tryz.f136 b136 sh136 out136
noncomputable def e136 : FE := ⟨136, sh136, out136, F136⟩
theorem ok136 : FEOK Tryz.prog e136 := func_ok (cx := cx136) (fn := Tryz.f136) (c := b136) (all_fe (P := Tryz.prog) (l := [e132]) ⟨ok132, trivial⟩) (by kernel_rfl) (by kernel_rfl) (by kernel_rfl) (by kernel_rfl) (by kernel_rfl) (needs_of (l := []) (by kernel_rfl) trivial)
@[reducible] def sh138 : Shape := ⟨[(0, .one (.d .str)), (1, .one (.d .str))], []⟩
@[reducible] def out138 : Shape := ⟨[(0, .one (.d .str)), (1, .one (.d .str)), (2, .one (.d .bool))], []⟩
noncomputable def b138 : Code := Tryz.f138.body.getD .skip
noncomputable def cx138 : Cx := ⟨Tryz.prog, [e162], [], 23, [], []⟩
noncomputable def F138 : ByteArray × ByteArray × Unit → Option (ByteArray × ByteArray × Bool × Unit) := func cx138 Tryz.f138 b138 sh138 out138
noncomputable def e138 : FE := ⟨138, sh138, out138, F138⟩
theorem ok138 : FEOK Tryz.prog e138 := func_ok (cx := cx138) (fn := Tryz.f138) (c := b138) (all_fe (P := Tryz.prog) (l := [e162]) ⟨ok162, trivial⟩) (by kernel_rfl) (by kernel_rfl) (by kernel_rfl) (by kernel_rfl) (by kernel_rfl) (needs_of (l := []) (by kernel_rfl) trivial)
@[reducible] def sh101 : Shape := ⟨[(0, .one (.d .str)), (1, .one (.d .str))], []⟩
@[reducible] def out101 : Shape := ⟨[(0, .one (.d .str)), (1, .one (.d .str)), (2, .one (.d .bool))], []⟩
noncomputable def b101 : Code := Tryz.f101.body.getD .skip
noncomputable def cx101 : Cx := ⟨Tryz.prog, [e138], [], 13, [], []⟩
noncomputable def F101 : ByteArray × ByteArray × Unit → Option (ByteArray × ByteArray × Bool × Unit) := func cx101 Tryz.f101 b101 sh101 out101
noncomputable def e101 : FE := ⟨101, sh101, out101, F101⟩
theorem ok101 : FEOK Tryz.prog e101 := func_ok (cx := cx101) (fn := Tryz.f101) (c := b101) (all_fe (P := Tryz.prog) (l := [e138]) ⟨ok138, trivial⟩) (by kernel_rfl) (by kernel_rfl) (by kernel_rfl) (by kernel_rfl) (by kernel_rfl) (needs_of (l := []) (by kernel_rfl) trivial)
@[reducible] def sh141 : Shape := ⟨[(0, .one (.d (.int .i64)))], []⟩
@[reducible] def out141 : Shape := ⟨[(0, .one (.d .bool))], []⟩
noncomputable def b141 : Code := Tryz.f141.body.getD .skip
noncomputable def cx141 : Cx := ⟨Tryz.prog, [], [], 9, [], []⟩
noncomputable def F141 : Int × Unit → Option (Bool × Unit) := func cx141 Tryz.f141 b141 sh141 out141
noncomputable def e141 : FE := ⟨141, sh141, out141, F141⟩
theorem ok141 : FEOK Tryz.prog e141 := func_ok (cx := cx141) (fn := Tryz.f141) (c := b141) (all_fe (P := Tryz.prog) (l := []) trivial) (by kernel_rfl) (by kernel_rfl) (by kernel_rfl) (by kernel_rfl) (by kernel_rfl) (needs_of (l := []) (by kernel_rfl) trivial)
@[reducible] def sh144 : Shape := ⟨[(0, .one (.d .str))], []⟩
@[reducible] def out144 : Shape := ⟨[(0, .one (.d .bool))], []⟩
noncomputable def b144 : Code := Tryz.f144.body.getD .skip
@[reducible] def sh144_0 : Shape := ⟨[(0, .one (.d .str)), (5, .one (.d (.int .i64))), (6, .one (.d (.int .i64)))], []⟩
@[reducible] def os144_0 : List (XE × Shape) := [(.ret, ⟨[(2, .one (.d .bool))], []⟩), (.ex 0, ⟨[(0, .one (.d .str))], []⟩)]
noncomputable def cx144_0 : Cx := ⟨Tryz.prog, [e133, e149], [], 32, [], []⟩
noncomputable def B144_0 : ByteArray × Int × Int × Unit → Option ((ByteArray × Int × Int × Unit) ⊕ (Bool × Unit) ⊕ (ByteArray × Unit)) := round cx144_0 (sub [1, 0, 1, 0, 0] b144) sh144_0 os144_0
noncomputable def ce144_0 : CE := ⟨sh144_0, os144_0, loop B144_0⟩
theorem okc144_0 : CEOK Tryz.prog 32 (.at (.loop (sub [1, 0, 1, 0, 0] b144))) ce144_0 := round_ok (cx := cx144_0) (fun R => step_sound (all_fe (P := Tryz.prog) (l := [e133, e149]) ⟨ok133, ok149, trivial⟩) R) (needs_of (l := []) (by kernel_rfl) trivial) sh144_0 os144_0
noncomputable def cx144 : Cx := ⟨Tryz.prog, [e133, e149], [], 32, [(4, ce144_0)], []⟩
noncomputable def F144 : ByteArray × Unit → Option (Bool × Unit) := func cx144 Tryz.f144 b144 sh144 out144
noncomputable def e144 : FE := ⟨144, sh144, out144, F144⟩
theorem ok144 : FEOK Tryz.prog e144 := func_ok (cx := cx144) (fn := Tryz.f144) (c := b144) (all_fe (P := Tryz.prog) (l := [e133, e149]) ⟨ok133, ok149, trivial⟩) (by kernel_rfl) (by kernel_rfl) (by kernel_rfl) (by kernel_rfl) (by kernel_rfl) (needs_of (l := [((.at (.loop (sub [1, 0, 1, 0, 0] b144))), ce144_0)]) (by kernel_rfl) ⟨okc144_0, trivial⟩)
@[reducible] def sh143 : Shape := ⟨[(0, .one (.d .str))], []⟩
@[reducible] def out143 : Shape := ⟨[(0, .one (.d .bool))], []⟩
noncomputable def b143 : Code := Tryz.f143.body.getD .skip
noncomputable def cx143 : Cx := ⟨Tryz.prog, [e144], [], 6, [], []⟩
noncomputable def F143 : ByteArray × Unit → Option (Bool × Unit) := func cx143 Tryz.f143 b143 sh143 out143
noncomputable def e143 : FE := ⟨143, sh143, out143, F143⟩
theorem ok143 : FEOK Tryz.prog e143 := func_ok (cx := cx143) (fn := Tryz.f143) (c := b143) (all_fe (P := Tryz.prog) (l := [e144]) ⟨ok144, trivial⟩) (by kernel_rfl) (by kernel_rfl) (by kernel_rfl) (by kernel_rfl) (by kernel_rfl) (needs_of (l := []) (by kernel_rfl) trivial)
@[reducible] def sh166 : Shape := ⟨[(0, .one (.d (.list .str))), (1, .one (.fn 143))], []⟩
@[reducible] def out166 : Shape := ⟨[(0, .one (.d (.int .i64)))], []⟩
noncomputable def b166 : Code := Tryz.f166.body.getD .skip
@[reducible] def sh166_0 : Shape := ⟨[(0, .one (.d (.list .str))), (1, .one (.fn 143)), (7, .one (.d (.int .i64))), (8, .one (.d (.int .i64)))], []⟩
@[reducible] def os166_0 : List (XE × Shape) := [(.ret, ⟨[(4, .one (.d (.int .i64)))], []⟩), (.ex 0, ⟨[], []⟩)]
noncomputable def cx166_0 : Cx := ⟨Tryz.prog, [e143], [], 19, [], []⟩
noncomputable def B166_0 : List ByteArray × Int × Int × Unit → Option ((List ByteArray × Int × Int × Unit) ⊕ (Int × Unit) ⊕ (Unit)) := round cx166_0 (sub [1, 0, 1, 0, 0] b166) sh166_0 os166_0
noncomputable def ce166_0 : CE := ⟨sh166_0, os166_0, loop B166_0⟩
theorem okc166_0 : CEOK Tryz.prog 19 (.at (.loop (sub [1, 0, 1, 0, 0] b166))) ce166_0 := round_ok (cx := cx166_0) (fun R => step_sound (all_fe (P := Tryz.prog) (l := [e143]) ⟨ok143, trivial⟩) R) (needs_of (l := []) (by kernel_rfl) trivial) sh166_0 os166_0
noncomputable def cx166 : Cx := ⟨Tryz.prog, [e143], [], 19, [(4, ce166_0)], []⟩
noncomputable def F166 : List ByteArray × Unit → Option (Int × Unit) := func cx166 Tryz.f166 b166 sh166 out166
noncomputable def e166 : FE := ⟨166, sh166, out166, F166⟩
theorem ok166 : FEOK Tryz.prog e166 := func_ok (cx := cx166) (fn := Tryz.f166) (c := b166) (all_fe (P := Tryz.prog) (l := [e143]) ⟨ok143, trivial⟩) (by kernel_rfl) (by kernel_rfl) (by kernel_rfl) (by kernel_rfl) (by kernel_rfl) (needs_of (l := [((.at (.loop (sub [1, 0, 1, 0, 0] b166))), ce166_0)]) (by kernel_rfl) ⟨okc166_0, trivial⟩)
@[reducible] def sh142 : Shape := ⟨[(0, .one (.d (.list .str))), (1, .one (.fn 143))], []⟩
@[reducible] def out142 : Shape := ⟨[(0, .one (.d .bool))], []⟩
noncomputable def b142 : Code := Tryz.f142.body.getD .skip
noncomputable def cx142 : Cx := ⟨Tryz.prog, [e166], [], 9, [], []⟩
noncomputable def F142 : List ByteArray × Unit → Option (Bool × Unit) := func cx142 Tryz.f142 b142 sh142 out142
noncomputable def e142 : FE := ⟨142, sh142, out142, F142⟩
theorem ok142 : FEOK Tryz.prog e142 := func_ok (cx := cx142) (fn := Tryz.f142) (c := b142) (all_fe (P := Tryz.prog) (l := [e166]) ⟨ok166, trivial⟩) (by kernel_rfl) (by kernel_rfl) (by kernel_rfl) (by kernel_rfl) (by kernel_rfl) (needs_of (l := []) (by kernel_rfl) trivial)
@[reducible] def sh105 : Shape := ⟨[(0, .row [.d (.int .i64), .d (.int .i64), .d (.int .i64), .d .str])], []⟩
@[reducible] def out105 : Shape := ⟨[(0, .one (.d .bool))], []⟩
noncomputable def b105 : Code := Tryz.f105.body.getD .skip
noncomputable def cx105 : Cx := ⟨Tryz.prog, [e102, e141, e142], [], 33, [], []⟩
noncomputable def F105 : Int × Int × Int × ByteArray × Unit → Option (Bool × Unit) := func cx105 Tryz.f105 b105 sh105 out105
noncomputable def e105 : FE := ⟨105, sh105, out105, F105⟩
theorem ok105 : FEOK Tryz.prog e105 := func_ok (cx := cx105) (fn := Tryz.f105) (c := b105) (all_fe (P := Tryz.prog) (l := [e102, e141, e142]) ⟨ok102, ok141, ok142, trivial⟩) (by kernel_rfl) (by kernel_rfl) (by kernel_rfl) (by kernel_rfl) (by kernel_rfl) (needs_of (l := []) (by kernel_rfl) trivial)
@[reducible] def sh80 : Shape := ⟨[(0, .one (.d .str))], []⟩
@[reducible] def out80 : Shape := ⟨[(0, .row [.d (.int .i64), .d (.int .i64), .d (.int .i64), .d .str]), (1, .one (.d .bool))], []⟩
noncomputable def b80 : Code := Tryz.f80.body.getD .skip
@[reducible] def sh80_0 : Shape := ⟨[(2, .one (.ptr 200000 0)), (4, .one (.ptr 200001 0)), (7, .one (.d .str)), (9, .one (.d (.list .str))), (43, .one (.bs 200002 3)), (44, .one (.d (.int .i64))), (45, .one (.d (.int .i64)))], [(200000, .box 34 [.d (.int .i64), .d (.int .i64), .d (.int .i64), .d .str]), (200001, .box 34 [.d (.int .i64), .d (.int .i64), .d (.int .i64), .d .str]), (200002, .box 134 [.ptr 200001 0, .ptr 200001 1, .ptr 200001 2])]⟩
@[reducible] def os80_0 : List (XE × Shape) := [(.ret, ⟨[(2, .one (.ptr 200000 0)), (3, .one (.d .bool))], [(200000, .box 34 [.d (.int .i64), .d (.int .i64), .d (.int .i64), .d .str])]⟩), (.ex 0, ⟨[(2, .one (.ptr 200000 0)), (4, .one (.ptr 200001 0)), (7, .one (.d .str))], [(200000, .box 34 [.d (.int .i64), .d (.int .i64), .d (.int .i64), .d .str]), (200001, .box 34 [.d (.int .i64), .d (.int .i64), .d (.int .i64), .d .str])]⟩)]
noncomputable def cx80_0 : Cx := ⟨Tryz.prog, [e100, e101, e102, e103, e104, e105], [], 72, [], []⟩
noncomputable def B80_0 : ByteArray × List ByteArray × Int × Int × Int × Int × Int × ByteArray × Int × Int × Int × ByteArray × Unit → Option ((ByteArray × List ByteArray × Int × Int × Int × Int × Int × ByteArray × Int × Int × Int × ByteArray × Unit) ⊕ (Bool × Int × Int × Int × ByteArray × Unit) ⊕ (ByteArray × Int × Int × Int × ByteArray × Int × Int × Int × ByteArray × Unit)) := round cx80_0 (sub [1, 1, 1, 1, 1, 1, 0, 1, 0, 0] b80) sh80_0 os80_0
noncomputable def ce80_0 : CE := ⟨sh80_0, os80_0, loop B80_0⟩
theorem okc80_0 : CEOK Tryz.prog 72 (.at (.loop (sub [1, 1, 1, 1, 1, 1, 0, 1, 0, 0] b80))) ce80_0 := round_ok (cx := cx80_0) (fun R => step_sound (all_fe (P := Tryz.prog) (l := [e100, e101, e102, e103, e104, e105]) ⟨ok100, ok101, ok102, ok103, ok104, ok105, trivial⟩) R) (needs_of (l := []) (by kernel_rfl) trivial) sh80_0 os80_0
noncomputable def cx80 : Cx := ⟨Tryz.prog, [e100, e101, e102, e103, e104, e105], [], 72, [(16, ce80_0)], []⟩
noncomputable def F80 : ByteArray × Unit → Option (Int × Int × Int × ByteArray × Bool × Unit) := func cx80 Tryz.f80 b80 sh80 out80
noncomputable def e80 : FE := ⟨80, sh80, out80, F80⟩
theorem ok80 : FEOK Tryz.prog e80 := func_ok (cx := cx80) (fn := Tryz.f80) (c := b80) (all_fe (P := Tryz.prog) (l := [e100, e101, e102, e103, e104, e105]) ⟨ok100, ok101, ok102, ok103, ok104, ok105, trivial⟩) (by kernel_rfl) (by kernel_rfl) (by kernel_rfl) (by kernel_rfl) (by kernel_rfl) (needs_of (l := [((.at (.loop (sub [1, 1, 1, 1, 1, 1, 0, 1, 0, 0] b80))), ce80_0)]) (by kernel_rfl) ⟨okc80_0, trivial⟩)
@[reducible] def sh56 : Shape := ⟨[(0, .row [.d (.int .i64), .d (.int .i64), .d (.int .i64), .d .str])], []⟩
@[reducible] def out56 : Shape := ⟨[(0, .one (.d .str))], []⟩
noncomputable def b56 : Code := Tryz.f56.body.getD .skip
noncomputable def cx56 : Cx := ⟨Tryz.prog, [e87], [], 27, [], []⟩
noncomputable def F56 : Int × Int × Int × ByteArray × Unit → Option (ByteArray × Unit) := func cx56 Tryz.f56 b56 sh56 out56
noncomputable def e56 : FE := ⟨56, sh56, out56, F56⟩
theorem ok56 : FEOK Tryz.prog e56 := func_ok (cx := cx56) (fn := Tryz.f56) (c := b56) (all_fe (P := Tryz.prog) (l := [e87]) ⟨ok87, trivial⟩) (by kernel_rfl) (by kernel_rfl) (by kernel_rfl) (by kernel_rfl) (by kernel_rfl) (needs_of (l := []) (by kernel_rfl) trivial)
@[reducible] def sh147 : Shape := ⟨[(0, .one (.ptr 100000 0))], [(100000, .box 119 [.nilP, .nilS])]⟩
noncomputable def e147 : FE := ⟨147, sh147, sh147, fun p => some p⟩
theorem ok147 : FEOK Tryz.prog e147 := ok_same (fn := Tryz.f147) (by kernel_rfl) (by kernel_rfl) (by kernel_rfl) (by kernel_rfl) (by kernel_rfl)
@[reducible] def sh110 : Shape := ⟨[(0, .one (.ptr 100000 0))], [(100000, .box 119 [.nilP, .nilS])]⟩
@[reducible] def out110 : Shape := ⟨[], [(100000, .box 119 [.ptr 100000 0, .nilS])]⟩
noncomputable def b110 : Code := Tryz.f110.body.getD .skip
noncomputable def cx110 : Cx := ⟨Tryz.prog, [e147], [], 20, [], []⟩
noncomputable def F110 : Unit → Option (Unit) := func cx110 Tryz.f110 b110 sh110 out110
noncomputable def e110 : FE := ⟨110, sh110, out110, F110⟩
theorem ok110 : FEOK Tryz.prog e110 := func_ok (cx := cx110) (fn := Tryz.f110) (c := b110) (all_fe (P := Tryz.prog) (l := [e147]) ⟨ok147, trivial⟩) (by kernel_rfl) (by kernel_rfl) (by kernel_rfl) (by kernel_rfl) (by kernel_rfl) (needs_of (l := []) (by kernel_rfl) trivial)
@[reducible] def sh88 : Shape := ⟨[(0, .one (.ptr 100000 0)), (1, .one (.d (.int .i64)))], [(100000, .box 119 [.nilP, .nilS])]⟩
@[reducible] def out88 : Shape := ⟨[], [(100000, .box 119 [.ptr 100000 0, .own 200000]), (200000, .lst 5 (.int .u8) false)]⟩
noncomputable def b88 : Code := Tryz.f88.body.getD .skip
noncomputable def cx88 : Cx := ⟨Tryz.prog, [e110, e111], [], 25, [], []⟩
noncomputable def F88 : Int × Unit → Option (List Int × Unit) := func cx88 Tryz.f88 b88 sh88 out88
noncomputable def e88 : FE := ⟨88, sh88, out88, F88⟩
theorem ok88 : FEOK Tryz.prog e88 := func_ok (cx := cx88) (fn := Tryz.f88) (c := b88) (all_fe (P := Tryz.prog) (l := [e110, e111]) ⟨ok110, ok111, trivial⟩) (by kernel_rfl) (by kernel_rfl) (by kernel_rfl) (by kernel_rfl) (by kernel_rfl) (needs_of (l := []) (by kernel_rfl) trivial)
@[reducible] def sh110v1 : Shape := ⟨[(0, .one (.ptr 100000 0))], [(100000, .box 119 [.ptr 100000 0, .own 100001]), (100001, .lst 5 (.int .u8) false)]⟩
@[reducible] def out110v1 : Shape := ⟨[], [(100000, .box 119 [.ptr 100000 0, .own 100001]), (100001, .lst 5 (.int .u8) false)]⟩
noncomputable def b110v1 : Code := Tryz.f110.body.getD .skip
noncomputable def cx110v1 : Cx := ⟨Tryz.prog, [], [], 20, [], []⟩
noncomputable def F110v1 : List Int × Unit → Option (List Int × Unit) := func cx110v1 Tryz.f110 b110v1 sh110v1 out110v1
noncomputable def e110v1 : FE := ⟨110, sh110v1, out110v1, F110v1⟩
theorem ok110v1 : FEOK Tryz.prog e110v1 := func_ok (cx := cx110v1) (fn := Tryz.f110) (c := b110v1) (all_fe (P := Tryz.prog) (l := []) trivial) (by kernel_rfl) (by kernel_rfl) (by kernel_rfl) (by kernel_rfl) (by kernel_rfl) (needs_of (l := []) (by kernel_rfl) trivial)
@[reducible] def sh89 : Shape := ⟨[(0, .one (.ptr 100000 0)), (1, .one (.d .str))], [(100000, .box 119 [.ptr 100000 0, .own 100001]), (100001, .lst 5 (.int .u8) false)]⟩
@[reducible] def out89 : Shape := ⟨[(0, .one (.d (.int .i64))), (1, .one (.junk))], [(100000, .box 119 [.ptr 100000 0, .own 200000]), (100001, .dead), (200000, .lst 5 (.int .u8) false)]⟩
noncomputable def b89 : Code := Tryz.f89.body.getD .skip
noncomputable def cx89 : Cx := ⟨Tryz.prog, [e110v1], [14], 19, [], []⟩
noncomputable def F89 : ByteArray × List Int × Unit → Option (Int × List Int × Unit) := func cx89 Tryz.f89 b89 sh89 out89
noncomputable def e89 : FE := ⟨89, sh89, out89, F89⟩
theorem ok89 : FEOK Tryz.prog e89 := func_ok (cx := cx89) (fn := Tryz.f89) (c := b89) (all_fe (P := Tryz.prog) (l := [e110v1]) ⟨ok110v1, trivial⟩) (by kernel_rfl) (by kernel_rfl) (by kernel_rfl) (by kernel_rfl) (by kernel_rfl) (needs_of (l := []) (by kernel_rfl) trivial)
@[reducible] def sh90 : Shape := ⟨[(0, .one (.ptr 100000 0))], [(100000, .box 119 [.ptr 100000 0, .own 100001]), (100001, .lst 5 (.int .u8) false)]⟩
@[reducible] def out90 : Shape := ⟨[(0, .one (.d .str))], [(100000, .box 119 [.ptr 100000 0, .junk]), (100001, .dead)]⟩
noncomputable def b90 : Code := Tryz.f90.body.getD .skip
noncomputable def cx90 : Cx := ⟨Tryz.prog, [], [], 14, [], []⟩
noncomputable def F90 : List Int × Unit → Option (ByteArray × Unit) := func cx90 Tryz.f90 b90 sh90 out90
noncomputable def e90 : FE := ⟨90, sh90, out90, F90⟩
theorem ok90 : FEOK Tryz.prog e90 := func_ok (cx := cx90) (fn := Tryz.f90) (c := b90) (all_fe (P := Tryz.prog) (l := []) trivial) (by kernel_rfl) (by kernel_rfl) (by kernel_rfl) (by kernel_rfl) (by kernel_rfl) (needs_of (l := []) (by kernel_rfl) trivial)
@[reducible] def sh57 : Shape := ⟨[(0, .one (.d (.list .str))), (1, .one (.d .str))], []⟩
@[reducible] def out57 : Shape := ⟨[(0, .one (.d .str))], []⟩
noncomputable def b57 : Code := Tryz.f57.body.getD .skip
@[reducible] def sh57_0 : Shape := ⟨[(0, .one (.d (.list .str))), (1, .one (.d .str)), (5, .one (.d (.int .i64))), (39, .one (.d (.list .str))), (40, .one (.d (.int .i64))), (41, .one (.d (.int .i64)))], []⟩
@[reducible] def os57_0 : List (XE × Shape) := [(.ex 1, ⟨[(0, .one (.d (.list .str))), (1, .one (.d .str)), (5, .one (.d (.int .i64)))], []⟩)]
noncomputable def cx57_0 : Cx := ⟨Tryz.prog, [e88, e89, e90], [], 75, [], []⟩
noncomputable def B57_0 : List ByteArray × ByteArray × Int × List ByteArray × Int × Int × Unit → Option ((List ByteArray × ByteArray × Int × List ByteArray × Int × Int × Unit) ⊕ List ByteArray × ByteArray × Int × Unit) := round cx57_0 (sub [1, 1, 1, 1, 0, 1, 0, 0] b57) sh57_0 os57_0
noncomputable def ce57_0 : CE := ⟨sh57_0, os57_0, loop B57_0⟩
theorem okc57_0 : CEOK Tryz.prog 75 (.at (.loop (sub [1, 1, 1, 1, 0, 1, 0, 0] b57))) ce57_0 := round_ok (cx := cx57_0) (fun R => step_sound (all_fe (P := Tryz.prog) (l := [e88, e89, e90]) ⟨ok88, ok89, ok90, trivial⟩) R) (needs_of (l := []) (by kernel_rfl) trivial) sh57_0 os57_0
@[reducible] def sh57_1 : Shape := ⟨[(1, .one (.d .str)), (8, .one (.ptr 200000 0)), (63, .one (.d (.list .str))), (64, .one (.d (.int .i64))), (65, .one (.d (.int .i64)))], [(200000, .box 119 [.ptr 200000 0, .own 200001]), (200001, .lst 5 (.int .u8) false)]⟩
@[reducible] def os57_1 : List (XE × Shape) := [(.ex 3, ⟨[(8, .one (.ptr 200000 0))], [(200000, .box 119 [.ptr 200000 0, .own 200001]), (200001, .lst 5 (.int .u8) false)]⟩)]
noncomputable def cx57_1 : Cx := ⟨Tryz.prog, [e88, e89, e90], [], 75, [(24, ce57_0)], []⟩
noncomputable def B57_1 : ByteArray × List ByteArray × Int × Int × List Int × Unit → Option ((ByteArray × List ByteArray × Int × Int × List Int × Unit) ⊕ List Int × Unit) := round cx57_1 (sub [1, 1, 1, 1, 1, 1, 1, 1, 0, 1, 0, 0] b57) sh57_1 os57_1
noncomputable def ce57_1 : CE := ⟨sh57_1, os57_1, loop B57_1⟩
theorem okc57_1 : CEOK Tryz.prog 75 (.at (.loop (sub [1, 1, 1, 1, 1, 1, 1, 1, 0, 1, 0, 0] b57))) ce57_1 := round_ok (cx := cx57_1) (fun R => step_sound (all_fe (P := Tryz.prog) (l := [e88, e89, e90]) ⟨ok88, ok89, ok90, trivial⟩) R) (needs_of (l := []) (by kernel_rfl) trivial) sh57_1 os57_1
noncomputable def cx57 : Cx := ⟨Tryz.prog, [e88, e89, e90], [], 75, [(24, ce57_0), (44, ce57_1)], []⟩
noncomputable def F57 : List ByteArray × ByteArray × Unit → Option (ByteArray × Unit) := func cx57 Tryz.f57 b57 sh57 out57
noncomputable def e57 : FE := ⟨57, sh57, out57, F57⟩
theorem ok57 : FEOK Tryz.prog e57 := func_ok (cx := cx57) (fn := Tryz.f57) (c := b57) (all_fe (P := Tryz.prog) (l := [e88, e89, e90]) ⟨ok88, ok89, ok90, trivial⟩) (by kernel_rfl) (by kernel_rfl) (by kernel_rfl) (by kernel_rfl) (by kernel_rfl) (needs_of (l := [((.at (.loop (sub [1, 1, 1, 1, 0, 1, 0, 0] b57))), ce57_0), ((.at (.loop (sub [1, 1, 1, 1, 1, 1, 1, 1, 0, 1, 0, 0] b57))), ce57_1)]) (by kernel_rfl) ⟨okc57_0, okc57_1, trivial⟩)
@[reducible] def sh34 : Shape := ⟨[(0, .one (.d (.list r7)))], []⟩
@[reducible] def out34 : Shape := ⟨[(0, .one (.d .str))], []⟩
noncomputable def b34 : Code := Tryz.f34.body.getD .skip
@[reducible] def sh34_0 : Shape := ⟨[(3, .one (.own 200000)), (10, .one (.d (.list r7))), (11, .one (.d (.int .i64))), (12, .one (.d (.int .i64)))], [(200000, .lst 9 .str true)]⟩
@[reducible] def os34_0 : List (XE × Shape) := [(.ex 0, ⟨[(3, .one (.own 200000))], [(200000, .lst 9 .str true)]⟩)]
noncomputable def cx34_0 : Cx := ⟨Tryz.prog, [e56, e57], [], 53, [], []⟩
noncomputable def B34_0 : List R7 × Int × Int × List ByteArray × Unit → Option ((List R7 × Int × Int × List ByteArray × Unit) ⊕ List ByteArray × Unit) := round cx34_0 (sub [1, 1, 1, 0, 1, 0, 0] b34) sh34_0 os34_0
noncomputable def ce34_0 : CE := ⟨sh34_0, os34_0, loop B34_0⟩
theorem okc34_0 : CEOK Tryz.prog 53 (.at (.loop (sub [1, 1, 1, 0, 1, 0, 0] b34))) ce34_0 := round_ok (cx := cx34_0) (fun R => step_sound (all_fe (P := Tryz.prog) (l := [e56, e57]) ⟨ok56, ok57, trivial⟩) R) (needs_of (l := []) (by kernel_rfl) trivial) sh34_0 os34_0
noncomputable def cx34 : Cx := ⟨Tryz.prog, [e56, e57], [], 53, [(10, ce34_0)], []⟩
noncomputable def F34 : List R7 × Unit → Option (ByteArray × Unit) := func cx34 Tryz.f34 b34 sh34 out34
noncomputable def e34 : FE := ⟨34, sh34, out34, F34⟩
theorem ok34 : FEOK Tryz.prog e34 := func_ok (cx := cx34) (fn := Tryz.f34) (c := b34) (all_fe (P := Tryz.prog) (l := [e56, e57]) ⟨ok56, ok57, trivial⟩) (by kernel_rfl) (by kernel_rfl) (by kernel_rfl) (by kernel_rfl) (by kernel_rfl) (needs_of (l := [((.at (.loop (sub [1, 1, 1, 0, 1, 0, 0] b34))), ce34_0)]) (by kernel_rfl) ⟨okc34_0, trivial⟩)
@[reducible] def sh62 : Shape := ⟨[(0, .one (.d (.int .u8)))], []⟩
@[reducible] def out62 : Shape := ⟨[(0, .one (.d .bool))], []⟩
noncomputable def b62 : Code := Tryz.f62.body.getD .skip
noncomputable def cx62 : Cx := ⟨Tryz.prog, [], [], 9, [], []⟩
noncomputable def F62 : Int × Unit → Option (Bool × Unit) := func cx62 Tryz.f62 b62 sh62 out62
noncomputable def e62 : FE := ⟨62, sh62, out62, F62⟩
theorem ok62 : FEOK Tryz.prog e62 := func_ok (cx := cx62) (fn := Tryz.f62) (c := b62) (all_fe (P := Tryz.prog) (l := []) trivial) (by kernel_rfl) (by kernel_rfl) (by kernel_rfl) (by kernel_rfl) (by kernel_rfl) (needs_of (l := []) (by kernel_rfl) trivial)
@[reducible] def sh63 : Shape := ⟨[(0, .one (.d .str))], []⟩
@[reducible] def out63 : Shape := ⟨[(0, .one (.d (.int .i64))), (1, .one (.d .bool))], []⟩
noncomputable def b63 : Code := Tryz.f63.body.getD .skip
@[reducible] def sh63_0 : Shape := ⟨[(0, .one (.d .str)), (4, .one (.d (.int .i64))), (5, .one (.d (.int .i64)))], []⟩
@[reducible] def os63_0 : List (XE × Shape) := [(.ret, ⟨[(2, .one (.d (.int .i64))), (3, .one (.d .bool))], []⟩), (.ex 0, ⟨[(4, .one (.d (.int .i64)))], []⟩)]
noncomputable def cx63_0 : Cx := ⟨Tryz.prog, [], [], 49, [], []⟩
noncomputable def B63_0 : ByteArray × Int × Int × Unit → Option ((ByteArray × Int × Int × Unit) ⊕ (Int × Bool × Unit) ⊕ (Int × Unit)) := round cx63_0 (sub [1, 1, 1, 0, 1, 0, 0] b63) sh63_0 os63_0
noncomputable def ce63_0 : CE := ⟨sh63_0, os63_0, loop B63_0⟩
theorem okc63_0 : CEOK Tryz.prog 49 (.at (.loop (sub [1, 1, 1, 0, 1, 0, 0] b63))) ce63_0 := round_ok (cx := cx63_0) (fun R => step_sound (all_fe (P := Tryz.prog) (l := []) trivial) R) (needs_of (l := []) (by kernel_rfl) trivial) sh63_0 os63_0
noncomputable def cx63 : Cx := ⟨Tryz.prog, [], [], 49, [(10, ce63_0)], []⟩
noncomputable def F63 : ByteArray × Unit → Option (Int × Bool × Unit) := func cx63 Tryz.f63 b63 sh63 out63
noncomputable def e63 : FE := ⟨63, sh63, out63, F63⟩
theorem ok63 : FEOK Tryz.prog e63 := func_ok (cx := cx63) (fn := Tryz.f63) (c := b63) (all_fe (P := Tryz.prog) (l := []) trivial) (by kernel_rfl) (by kernel_rfl) (by kernel_rfl) (by kernel_rfl) (by kernel_rfl) (needs_of (l := [((.at (.loop (sub [1, 1, 1, 0, 1, 0, 0] b63))), ce63_0)]) (by kernel_rfl) ⟨okc63_0, trivial⟩)
@[reducible] def sh47 : Shape := ⟨[(0, .one (.d .str))], []⟩
@[reducible] def out47 : Shape := ⟨[(0, .one (.d (.list .str)))], []⟩
noncomputable def b47 : Code := Tryz.f47.body.getD .skip
@[reducible] def sh47_0 : Shape := ⟨[(0, .one (.d .str)), (3, .one (.own 200000)), (4, .one (.d (.int .i64))), (5, .one (.d (.int .i64)))], [(200000, .lst 9 .str true)]⟩
@[reducible] def os47_0 : List (XE × Shape) := [(.ex 0, ⟨[(3, .one (.own 200000))], [(200000, .lst 9 .str true)]⟩)]
noncomputable def cx47_0 : Cx := ⟨Tryz.prog, [], [], 32, [], []⟩
noncomputable def B47_0 : ByteArray × Int × Int × List ByteArray × Unit → Option ((ByteArray × Int × Int × List ByteArray × Unit) ⊕ List ByteArray × Unit) := round cx47_0 (sub [1, 1, 1, 0, 1, 0, 0] b47) sh47_0 os47_0
noncomputable def ce47_0 : CE := ⟨sh47_0, os47_0, loop B47_0⟩
theorem okc47_0 : CEOK Tryz.prog 32 (.at (.loop (sub [1, 1, 1, 0, 1, 0, 0] b47))) ce47_0 := round_ok (cx := cx47_0) (fun R => step_sound (all_fe (P := Tryz.prog) (l := []) trivial) R) (needs_of (l := []) (by kernel_rfl) trivial) sh47_0 os47_0
noncomputable def cx47 : Cx := ⟨Tryz.prog, [], [], 32, [(8, ce47_0)], []⟩
noncomputable def F47 : ByteArray × Unit → Option (List ByteArray × Unit) := func cx47 Tryz.f47 b47 sh47 out47
noncomputable def e47 : FE := ⟨47, sh47, out47, F47⟩
theorem ok47 : FEOK Tryz.prog e47 := func_ok (cx := cx47) (fn := Tryz.f47) (c := b47) (all_fe (P := Tryz.prog) (l := []) trivial) (by kernel_rfl) (by kernel_rfl) (by kernel_rfl) (by kernel_rfl) (by kernel_rfl) (needs_of (l := [((.at (.loop (sub [1, 1, 1, 0, 1, 0, 0] b47))), ce47_0)]) (by kernel_rfl) ⟨okc47_0, trivial⟩)
@[reducible] def sh112 : Shape := ⟨[(0, .one (.d (.int .u8)))], []⟩
@[reducible] def out112 : Shape := ⟨[(0, .one (.d .bool))], []⟩
noncomputable def b112 : Code := Tryz.f112.body.getD .skip
noncomputable def cx112 : Cx := ⟨Tryz.prog, [], [], 21, [], []⟩
noncomputable def F112 : Int × Unit → Option (Bool × Unit) := func cx112 Tryz.f112 b112 sh112 out112
noncomputable def e112 : FE := ⟨112, sh112, out112, F112⟩
theorem ok112 : FEOK Tryz.prog e112 := func_ok (cx := cx112) (fn := Tryz.f112) (c := b112) (all_fe (P := Tryz.prog) (l := []) trivial) (by kernel_rfl) (by kernel_rfl) (by kernel_rfl) (by kernel_rfl) (by kernel_rfl) (needs_of (l := []) (by kernel_rfl) trivial)
@[reducible] def sh75 : Shape := ⟨[(0, .one (.d .str))], []⟩
@[reducible] def out75 : Shape := ⟨[(0, .one (.d .bool))], []⟩
noncomputable def b75 : Code := Tryz.f75.body.getD .skip
@[reducible] def sh75_0 : Shape := ⟨[(0, .one (.d .str)), (3, .one (.d (.int .i64)))], []⟩
@[reducible] def os75_0 : List (XE × Shape) := [(.ret, ⟨[(2, .one (.d .bool))], []⟩), (.ex 0, ⟨[(0, .one (.d .str))], []⟩)]
noncomputable def cx75_0 : Cx := ⟨Tryz.prog, [e62], [], 17, [], []⟩
noncomputable def B75_0 : ByteArray × Int × Unit → Option ((ByteArray × Int × Unit) ⊕ (Bool × Unit) ⊕ (ByteArray × Unit)) := round cx75_0 (sub [1, 0, 1, 0, 0] b75) sh75_0 os75_0
noncomputable def ce75_0 : CE := ⟨sh75_0, os75_0, loop B75_0⟩
theorem okc75_0 : CEOK Tryz.prog 17 (.at (.loop (sub [1, 0, 1, 0, 0] b75))) ce75_0 := round_ok (cx := cx75_0) (fun R => step_sound (all_fe (P := Tryz.prog) (l := [e62]) ⟨ok62, trivial⟩) R) (needs_of (l := []) (by kernel_rfl) trivial) sh75_0 os75_0
noncomputable def cx75 : Cx := ⟨Tryz.prog, [e62], [], 17, [(4, ce75_0)], []⟩
noncomputable def F75 : ByteArray × Unit → Option (Bool × Unit) := func cx75 Tryz.f75 b75 sh75 out75
noncomputable def e75 : FE := ⟨75, sh75, out75, F75⟩
theorem ok75 : FEOK Tryz.prog e75 := func_ok (cx := cx75) (fn := Tryz.f75) (c := b75) (all_fe (P := Tryz.prog) (l := [e62]) ⟨ok62, trivial⟩) (by kernel_rfl) (by kernel_rfl) (by kernel_rfl) (by kernel_rfl) (by kernel_rfl) (needs_of (l := [((.at (.loop (sub [1, 0, 1, 0, 0] b75))), ce75_0)]) (by kernel_rfl) ⟨okc75_0, trivial⟩)
@[reducible] def sh91 : Shape := ⟨[(0, .one (.d .str))], []⟩
@[reducible] def out91 : Shape := ⟨[(0, .one (.d .bool))], []⟩
noncomputable def b91 : Code := Tryz.f91.body.getD .skip
@[reducible] def sh91_0 : Shape := ⟨[(0, .one (.d .str)), (3, .one (.d (.int .i64)))], []⟩
@[reducible] def os91_0 : List (XE × Shape) := [(.ret, ⟨[(2, .one (.d .bool))], []⟩), (.ex 0, ⟨[], []⟩)]
noncomputable def cx91_0 : Cx := ⟨Tryz.prog, [e62, e75, e112], [], 38, [], []⟩
noncomputable def B91_0 : ByteArray × Int × Unit → Option ((ByteArray × Int × Unit) ⊕ (Bool × Unit) ⊕ (Unit)) := round cx91_0 (sub [1, 1, 0, 1, 0, 0] b91) sh91_0 os91_0
noncomputable def ce91_0 : CE := ⟨sh91_0, os91_0, loop B91_0⟩
theorem okc91_0 : CEOK Tryz.prog 38 (.at (.loop (sub [1, 1, 0, 1, 0, 0] b91))) ce91_0 := round_ok (cx := cx91_0) (fun R => step_sound (all_fe (P := Tryz.prog) (l := [e62, e75, e112]) ⟨ok62, ok75, ok112, trivial⟩) R) (needs_of (l := []) (by kernel_rfl) trivial) sh91_0 os91_0
noncomputable def cx91 : Cx := ⟨Tryz.prog, [e62, e75, e112], [], 38, [(8, ce91_0)], []⟩
noncomputable def F91 : ByteArray × Unit → Option (Bool × Unit) := func cx91 Tryz.f91 b91 sh91 out91
noncomputable def e91 : FE := ⟨91, sh91, out91, F91⟩
theorem ok91 : FEOK Tryz.prog e91 := func_ok (cx := cx91) (fn := Tryz.f91) (c := b91) (all_fe (P := Tryz.prog) (l := [e62, e75, e112]) ⟨ok62, ok75, ok112, trivial⟩) (by kernel_rfl) (by kernel_rfl) (by kernel_rfl) (by kernel_rfl) (by kernel_rfl) (needs_of (l := [((.at (.loop (sub [1, 1, 0, 1, 0, 0] b91))), ce91_0)]) (by kernel_rfl) ⟨okc91_0, trivial⟩)
@[reducible] def sh64 : Shape := ⟨[(0, .row [.d (.int .i64), .d (.int .i64), .d (.int .i64), .d .str])], []⟩
@[reducible] def out64 : Shape := ⟨[(0, .one (.d .bool))], []⟩
noncomputable def b64 : Code := Tryz.f64.body.getD .skip
@[reducible] def sh64_0 : Shape := ⟨[(3, .one (.d (.list .str))), (4, .one (.d (.int .i64)))], []⟩
@[reducible] def os64_0 : List (XE × Shape) := [(.ret, ⟨[(2, .one (.d .bool))], []⟩), (.ex 0, ⟨[], []⟩)]
noncomputable def cx64_0 : Cx := ⟨Tryz.prog, [e47, e91], [], 52, [], []⟩
noncomputable def B64_0 : List ByteArray × Int × Unit → Option ((List ByteArray × Int × Unit) ⊕ (Bool × Unit) ⊕ (Unit)) := round cx64_0 (sub [1, 1, 1, 1, 0, 1, 0, 0] b64) sh64_0 os64_0
noncomputable def ce64_0 : CE := ⟨sh64_0, os64_0, loop B64_0⟩
theorem okc64_0 : CEOK Tryz.prog 52 (.at (.loop (sub [1, 1, 1, 1, 0, 1, 0, 0] b64))) ce64_0 := round_ok (cx := cx64_0) (fun R => step_sound (all_fe (P := Tryz.prog) (l := [e47, e91]) ⟨ok47, ok91, trivial⟩) R) (needs_of (l := []) (by kernel_rfl) trivial) sh64_0 os64_0
noncomputable def cx64 : Cx := ⟨Tryz.prog, [e47, e91], [], 52, [(14, ce64_0)], []⟩
noncomputable def F64 : Int × Int × Int × ByteArray × Unit → Option (Bool × Unit) := func cx64 Tryz.f64 b64 sh64 out64
noncomputable def e64 : FE := ⟨64, sh64, out64, F64⟩
theorem ok64 : FEOK Tryz.prog e64 := func_ok (cx := cx64) (fn := Tryz.f64) (c := b64) (all_fe (P := Tryz.prog) (l := [e47, e91]) ⟨ok47, ok91, trivial⟩) (by kernel_rfl) (by kernel_rfl) (by kernel_rfl) (by kernel_rfl) (by kernel_rfl) (needs_of (l := [((.at (.loop (sub [1, 1, 1, 1, 0, 1, 0, 0] b64))), ce64_0)]) (by kernel_rfl) ⟨okc64_0, trivial⟩)
@[reducible] def sh37 : Shape := ⟨[(0, .one (.d .str))], []⟩
@[reducible] def out37 : Shape := ⟨[(0, .row [.d (.int .i64), .d (.int .i64), .d (.int .i64), .d .str]), (1, .one (.d .bool))], []⟩
noncomputable def b37 : Code := Tryz.f37.body.getD .skip
@[reducible] def sh37_0 : Shape := ⟨[(0, .one (.d .str)), (2, .one (.ptr 200000 0)), (4, .one (.ptr 200001 0)), (5, .one (.d (.int .i64))), (6, .one (.d (.int .i64))), (7, .one (.d (.int .i64))), (20, .one (.d .str)), (21, .one (.d (.int .i64))), (22, .one (.d (.int .u8))), (23, .one (.d (.int .i64))), (24, .one (.d (.int .u8))), (25, .one (.d .bool))], [(200000, .box 34 [.d (.int .i64), .d (.int .i64), .d (.int .i64), .d .str]), (200001, .box 92 [.d (.int .i64), .d (.int .i64), .d (.int .i64)])]⟩
@[reducible] def os37_0 : List (XE × Shape) := [(.ex 2, ⟨[(0, .one (.d .str)), (2, .one (.ptr 200000 0)), (4, .one (.ptr 200001 0)), (5, .one (.d (.int .i64))), (6, .one (.d (.int .i64))), (7, .one (.d (.int .i64))), (20, .one (.d .str)), (21, .one (.d (.int .i64))), (22, .one (.d (.int .u8))), (23, .one (.d (.int .i64))), (24, .one (.d (.int .u8))), (25, .one (.d .bool))], [(200000, .box 34 [.d (.int .i64), .d (.int .i64), .d (.int .i64), .d .str]), (200001, .box 92 [.d (.int .i64), .d (.int .i64), .d (.int .i64)])]⟩)]
noncomputable def cx37_0 : Cx := ⟨Tryz.prog, [e62, e63, e64], [], 90, [], []⟩
noncomputable def B37_0 : ByteArray × Int × Int × Int × ByteArray × Int × Int × Int × Int × Bool × Int × Int × Int × ByteArray × Int × Int × Int × Unit → Option ((ByteArray × Int × Int × Int × ByteArray × Int × Int × Int × Int × Bool × Int × Int × Int × ByteArray × Int × Int × Int × Unit) ⊕ ByteArray × Int × Int × Int × ByteArray × Int × Int × Int × Int × Bool × Int × Int × Int × ByteArray × Int × Int × Int × Unit) := round cx37_0 (sub [1, 1, 1, 0, 1, 0, 0, 1, 0, 0, 1, 1, 1, 0, 0, 0] b37) sh37_0 os37_0
noncomputable def ce37_0 : CE := ⟨sh37_0, os37_0, loop B37_0⟩
theorem okc37_0 : CEOK Tryz.prog 90 (.at (.loop (sub [1, 1, 1, 0, 1, 0, 0, 1, 0, 0, 1, 1, 1, 0, 0, 0] b37))) ce37_0 := round_ok (cx := cx37_0) (fun R => step_sound (all_fe (P := Tryz.prog) (l := [e62, e63, e64]) ⟨ok62, ok63, ok64, trivial⟩) R) (needs_of (l := []) (by kernel_rfl) trivial) sh37_0 os37_0
@[reducible] def sh37_1 : Shape := ⟨[(0, .one (.d .str)), (2, .one (.ptr 200000 0)), (4, .one (.ptr 200001 0)), (5, .one (.d (.int .i64))), (6, .one (.d (.int .i64)))], [(200000, .box 34 [.d (.int .i64), .d (.int .i64), .d (.int .i64), .d .str]), (200001, .box 92 [.d (.int .i64), .d (.int .i64), .d (.int .i64)])]⟩
@[reducible] def os37_1 : List (XE × Shape) := [(.ret, ⟨[(2, .one (.ptr 200000 0)), (3, .one (.d .bool))], [(200000, .box 34 [.d (.int .i64), .d (.int .i64), .d (.int .i64), .d .str])]⟩), (.ex 0, ⟨[(0, .one (.d .str)), (2, .one (.ptr 200000 0)), (4, .one (.ptr 200001 0)), (5, .one (.d (.int .i64)))], [(200000, .box 34 [.d (.int .i64), .d (.int .i64), .d (.int .i64), .d .str]), (200001, .box 92 [.d (.int .i64), .d (.int .i64), .d (.int .i64)])]⟩)]
noncomputable def cx37_1 : Cx := ⟨Tryz.prog, [e62, e63, e64], [], 90, [(20, ce37_0)], []⟩
noncomputable def B37_1 : ByteArray × Int × Int × Int × Int × Int × ByteArray × Int × Int × Int × Unit → Option ((ByteArray × Int × Int × Int × Int × Int × ByteArray × Int × Int × Int × Unit) ⊕ (Bool × Int × Int × Int × ByteArray × Unit) ⊕ (ByteArray × Int × Int × Int × Int × ByteArray × Int × Int × Int × Unit)) := round cx37_1 (sub [1, 1, 1, 0, 1, 0, 0] b37) sh37_1 os37_1
noncomputable def ce37_1 : CE := ⟨sh37_1, os37_1, loop B37_1⟩
theorem okc37_1 : CEOK Tryz.prog 90 (.at (.loop (sub [1, 1, 1, 0, 1, 0, 0] b37))) ce37_1 := round_ok (cx := cx37_1) (fun R => step_sound (all_fe (P := Tryz.prog) (l := [e62, e63, e64]) ⟨ok62, ok63, ok64, trivial⟩) R) (needs_of (l := [((.at (.loop (sub [1, 1, 1, 0, 1, 0, 0, 1, 0, 0, 1, 1, 1, 0, 0, 0] b37))), ce37_0)]) (by kernel_rfl) ⟨okc37_0, trivial⟩) sh37_1 os37_1
noncomputable def cx37 : Cx := ⟨Tryz.prog, [e62, e63, e64], [], 90, [(20, ce37_0), (8, ce37_1)], []⟩
noncomputable def F37 : ByteArray × Unit → Option (Int × Int × Int × ByteArray × Bool × Unit) := func cx37 Tryz.f37 b37 sh37 out37
noncomputable def e37 : FE := ⟨37, sh37, out37, F37⟩
theorem ok37 : FEOK Tryz.prog e37 := func_ok (cx := cx37) (fn := Tryz.f37) (c := b37) (all_fe (P := Tryz.prog) (l := [e62, e63, e64]) ⟨ok62, ok63, ok64, trivial⟩) (by kernel_rfl) (by kernel_rfl) (by kernel_rfl) (by kernel_rfl) (by kernel_rfl) (needs_of (l := [((.at (.loop (sub [1, 1, 1, 0, 1, 0, 0] b37))), ce37_1)]) (by kernel_rfl) ⟨okc37_1, trivial⟩)
@[reducible] def sh46 : Shape := ⟨[(0, .one (.d (.int .i64))), (1, .one (.d (.int .i64)))], []⟩
@[reducible] def out46 : Shape := ⟨[(0, .one (.d (.int .i64)))], []⟩
noncomputable def b46 : Code := Tryz.f46.body.getD .skip
noncomputable def cx46 : Cx := ⟨Tryz.prog, [], [], 11, [], []⟩
noncomputable def F46 : Int × Int × Unit → Option (Int × Unit) := func cx46 Tryz.f46 b46 sh46 out46
noncomputable def e46 : FE := ⟨46, sh46, out46, F46⟩
@[reducible] def sh48 : Shape := ⟨[(0, .one (.d .str)), (1, .one (.d .str))], []⟩
@[reducible] def out48 : Shape := ⟨[(0, .one (.d (.int .i64)))], []⟩
noncomputable def b48 : Code := Tryz.f48.body.getD .skip
noncomputable def cx48 : Cx := ⟨Tryz.prog, [e46, e75], [], 37, [], []⟩
noncomputable def F48 : ByteArray × ByteArray × Unit → Option (Int × Unit) := func cx48 Tryz.f48 b48 sh48 out48
noncomputable def e48 : FE := ⟨48, sh48, out48, F48⟩
@[reducible] def sh26 : Shape := ⟨[(0, .row [.d (.int .i64), .d (.int .i64), .d (.int .i64), .d .str]), (1, .row [.d (.int .i64), .d (.int .i64), .d (.int .i64), .d .str])], []⟩
@[reducible] def out26 : Shape := ⟨[(0, .one (.d (.int .i64)))], []⟩
noncomputable def b26 : Code := Tryz.f26.body.getD .skip
@[reducible] def sh26_0 : Shape := ⟨[(2, .one (.ptr 200000 0)), (3, .one (.ptr 200001 0)), (5, .one (.own 200002)), (6, .one (.d (.int .i64)))], [(200000, .box 34 [.d (.int .i64), .d (.int .i64), .d (.int .i64), .d .str]), (200001, .box 34 [.d (.int .i64), .d (.int .i64), .d (.int .i64), .d .str]), (200002, .lst 3 (.int .i64) true)]⟩
@[reducible] def os26_0 : List (XE × Shape) := [(.ret, ⟨[(4, .one (.d (.int .i64)))], []⟩), (.ex 0, ⟨[(2, .one (.ptr 200000 0)), (3, .one (.ptr 200001 0))], [(200000, .box 34 [.d (.int .i64), .d (.int .i64), .d (.int .i64), .d .str]), (200001, .box 34 [.d (.int .i64), .d (.int .i64), .d (.int .i64), .d .str])]⟩)]
noncomputable def cx26_0 : Cx := ⟨Tryz.prog, [e46, e47, e48], [], 99, [], []⟩
noncomputable def B26_0 : Int × Int × Int × Int × ByteArray × Int × Int × Int × ByteArray × List Int × Unit → Option ((Int × Int × Int × Int × ByteArray × Int × Int × Int × ByteArray × List Int × Unit) ⊕ (Int × Unit) ⊕ (Int × Int × Int × ByteArray × Int × Int × Int × ByteArray × Unit)) := round cx26_0 (sub [1, 1, 0, 1, 0, 0] b26) sh26_0 os26_0
noncomputable def ce26_0 : CE := ⟨sh26_0, os26_0, loop B26_0⟩
@[reducible] def sh26_1 : Shape := ⟨[(7, .one (.d (.list .str))), (8, .one (.d (.list .str))), (9, .one (.d (.int .i64)))], []⟩
@[reducible] def os26_1 : List (XE × Shape) := [(.ret, ⟨[(4, .one (.d (.int .i64)))], []⟩), (.ex 2, ⟨[(7, .one (.d (.list .str))), (8, .one (.d (.list .str)))], []⟩)]
noncomputable def cx26_1 : Cx := ⟨Tryz.prog, [e46, e47, e48], [], 99, [(6, ce26_0)], []⟩
noncomputable def B26_1 : List ByteArray × List ByteArray × Int × Unit → Option ((List ByteArray × List ByteArray × Int × Unit) ⊕ (Int × Unit) ⊕ (List ByteArray × List ByteArray × Unit)) := round cx26_1 (sub [1, 1, 1, 1, 1, 0, 1, 0, 0] b26) sh26_1 os26_1
noncomputable def ce26_1 : CE := ⟨sh26_1, os26_1, loop B26_1⟩
noncomputable def cx26 : Cx := ⟨Tryz.prog, [e46, e47, e48], [], 99, [(6, ce26_0), (22, ce26_1)], []⟩
noncomputable def F26 : Int × Int × Int × ByteArray × Int × Int × Int × ByteArray × Unit → Option (Int × Unit) := func cx26 Tryz.f26 b26 sh26 out26
noncomputable def e26 : FE := ⟨26, sh26, out26, F26⟩
@[reducible] def sh58 : Shape := ⟨[(0, .row [.d (.int .i64), .d (.int .i64), .d (.int .i64), .d .str, .d (.int .i64), .d (.int .i64), .d (.int .i64), .d .str, .d .bool, .d .bool, .d .bool])], []⟩
@[reducible] def out58 : Shape := ⟨[(0, .one (.d .bool))], []⟩
noncomputable def b58 : Code := Tryz.f58.body.getD .skip
noncomputable def cx58 : Cx := ⟨Tryz.prog, [e26], [], 29, [], []⟩
noncomputable def F58 : Int × Int × Int × ByteArray × Int × Int × Int × ByteArray × Bool × Bool × Bool × Unit → Option (Bool × Unit) := func cx58 Tryz.f58 b58 sh58 out58
noncomputable def e58 : FE := ⟨58, sh58, out58, F58⟩
@[reducible] def sh59 : Shape := ⟨[(0, .row [.d (.int .i64), .d (.int .i64), .d (.int .i64), .d .str, .d (.int .i64), .d (.int .i64), .d (.int .i64), .d .str, .d .bool, .d .bool, .d .bool]), (1, .row [.d (.int .i64), .d (.int .i64), .d (.int .i64), .d .str, .d (.int .i64), .d (.int .i64), .d (.int .i64), .d .str, .d .bool, .d .bool, .d .bool])], []⟩
@[reducible] def out59 : Shape := ⟨[(0, .one (.d .bool))], []⟩
noncomputable def b59 : Code := Tryz.f59.body.getD .skip
noncomputable def cx59 : Cx := ⟨Tryz.prog, [e26], [], 26, [], []⟩
noncomputable def F59 : Int × Int × Int × ByteArray × Int × Int × Int × ByteArray × Bool × Bool × Bool × Int × Int × Int × ByteArray × Int × Int × Int × ByteArray × Bool × Bool × Bool × Unit → Option (Bool × Unit) := func cx59 Tryz.f59 b59 sh59 out59
noncomputable def e59 : FE := ⟨59, sh59, out59, F59⟩
@[reducible] def sh60 : Shape := ⟨[(0, .row [.d (.int .i64), .d (.int .i64), .d (.int .i64), .d .str, .d (.int .i64), .d (.int .i64), .d (.int .i64), .d .str, .d .bool, .d .bool, .d .bool]), (1, .row [.d (.int .i64), .d (.int .i64), .d (.int .i64), .d .str, .d (.int .i64), .d (.int .i64), .d (.int .i64), .d .str, .d .bool, .d .bool, .d .bool])], []⟩
@[reducible] def out60 : Shape := ⟨[(0, .one (.d .bool))], []⟩
noncomputable def b60 : Code := Tryz.f60.body.getD .skip
noncomputable def cx60 : Cx := ⟨Tryz.prog, [e26], [], 28, [], []⟩
noncomputable def F60 : Int × Int × Int × ByteArray × Int × Int × Int × ByteArray × Bool × Bool × Bool × Int × Int × Int × ByteArray × Int × Int × Int × ByteArray × Bool × Bool × Bool × Unit → Option (Bool × Unit) := func cx60 Tryz.f60 b60 sh60 out60
noncomputable def e60 : FE := ⟨60, sh60, out60, F60⟩
@[reducible] def sh61 : Shape := ⟨[(0, .row [.d (.int .i64), .d (.int .i64), .d (.int .i64), .d .str, .d (.int .i64), .d (.int .i64), .d (.int .i64), .d .str, .d .bool, .d .bool, .d .bool]), (1, .row [.d (.int .i64), .d (.int .i64), .d (.int .i64), .d .str, .d (.int .i64), .d (.int .i64), .d (.int .i64), .d .str, .d .bool, .d .bool, .d .bool])], []⟩
@[reducible] def out61 : Shape := ⟨[(0, .one (.d .bool))], []⟩
noncomputable def b61 : Code := Tryz.f61.body.getD .skip
noncomputable def cx61 : Cx := ⟨Tryz.prog, [e26], [], 39, [], []⟩
noncomputable def F61 : Int × Int × Int × ByteArray × Int × Int × Int × ByteArray × Bool × Bool × Bool × Int × Int × Int × ByteArray × Int × Int × Int × ByteArray × Bool × Bool × Bool × Unit → Option (Bool × Unit) := func cx61 Tryz.f61 b61 sh61 out61
noncomputable def e61 : FE := ⟨61, sh61, out61, F61⟩
@[reducible] def sh36 : Shape := ⟨[(0, .one (.d (.list r7)))], []⟩
@[reducible] def out36 : Shape := ⟨[(0, .one (.d (.list r7)))], []⟩
noncomputable def b36 : Code := Tryz.f36.body.getD .skip
@[reducible] def sh36_0 : Shape := ⟨[(0, .one (.d (.list r7))), (3, .one (.own 200000)), (4, .one (.nilS)), (5, .one (.d (.int .i64))), (6, .one (.ptr 200001 0)), (7, .one (.d (.int .i64)))], [(200000, .lst 57 r7 true), (200001, .box 57 [.d (.int .i64), .d (.int .i64), .d (.int .i64), .d .str, .d (.int .i64), .d (.int .i64), .d (.int .i64), .d .str, .d .bool, .d .bool, .d .bool])]⟩
@[reducible] def os36_0 : List (XE × Shape) := [(.ex 2, ⟨[(0, .one (.d (.list r7))), (3, .one (.own 200000)), (4, .one (.nilS)), (5, .one (.d (.int .i64))), (6, .one (.ptr 200001 0)), (7, .one (.d (.int .i64)))], [(200000, .lst 57 r7 true), (200001, .box 57 [.d (.int .i64), .d (.int .i64), .d (.int .i64), .d .str, .d (.int .i64), .d (.int .i64), .d (.int .i64), .d .str, .d .bool, .d .bool, .d .bool])]⟩)]
noncomputable def cx36_0 : Cx := ⟨Tryz.prog, [e58, e59, e60, e61], [81, 82], 120, [], []⟩
noncomputable def B36_0 : List R7 × Int × Int × List R7 × Int × Int × Int × ByteArray × Int × Int × Int × ByteArray × Bool × Bool × Bool × Unit → Option ((List R7 × Int × Int × List R7 × Int × Int × Int × ByteArray × Int × Int × Int × ByteArray × Bool × Bool × Bool × Unit) ⊕ List R7 × Int × Int × List R7 × Int × Int × Int × ByteArray × Int × Int × Int × ByteArray × Bool × Bool × Bool × Unit) := round cx36_0 (sub [1, 1, 0, 1, 0, 0, 1, 0, 0, 1, 1, 1, 1, 0, 0, 0] b36) sh36_0 os36_0
noncomputable def ce36_0 : CE := ⟨sh36_0, os36_0, loop B36_0⟩
@[reducible] def sh36_1 : Shape := ⟨[(0, .one (.d (.list r7))), (3, .one (.own 200000)), (4, .one (.nilS)), (5, .one (.d (.int .i64)))], [(200000, .lst 57 r7 true)]⟩
@[reducible] def os36_1 : List (XE × Shape) := [(.ex 0, ⟨[(3, .one (.own 200000)), (4, .one (.nilS))], [(200000, .lst 57 r7 true)]⟩)]
noncomputable def cx36_1 : Cx := ⟨Tryz.prog, [e58, e59, e60, e61], [81, 82], 120, [(20, ce36_0)], []⟩
noncomputable def B36_1 : List R7 × Int × List R7 × Unit → Option ((List R7 × Int × List R7 × Unit) ⊕ List R7 × Unit) := round cx36_1 (sub [1, 1, 0, 1, 0, 0] b36) sh36_1 os36_1
noncomputable def ce36_1 : CE := ⟨sh36_1, os36_1, loop B36_1⟩
@[reducible] def sh36_2 : Shape := ⟨[(3, .one (.own 200000)), (4, .one (.own 200001)), (8, .one (.d (.int .i64)))], [(200000, .lst 57 r7 true), (200001, .lst 57 r7 false)]⟩
@[reducible] def os36_2 : List (XE × Shape) := [(.ex 4, ⟨[(4, .one (.own 200000))], [(200000, .lst 57 r7 false)]⟩)]
noncomputable def cx36_2 : Cx := ⟨Tryz.prog, [e58, e59, e60, e61], [81, 82], 120, [(20, ce36_0), (6, ce36_1)], []⟩
noncomputable def B36_2 : Int × List R7 × List R7 × Unit → Option ((Int × List R7 × List R7 × Unit) ⊕ List R7 × Unit) := round cx36_2 (sub [1, 1, 1, 0, 1, 0, 0] b36) sh36_2 os36_2
noncomputable def ce36_2 : CE := ⟨sh36_2, os36_2, loop B36_2⟩
noncomputable def cx36 : Cx := ⟨Tryz.prog, [e58, e59, e60, e61], [81, 82], 120, [(20, ce36_0), (6, ce36_1), (28, ce36_2)], [200000]⟩
noncomputable def F36 : List R7 × Unit → Option (List R7 × Unit) := func cx36 Tryz.f36 b36 sh36 out36
noncomputable def e36 : FE := ⟨36, sh36, out36, F36⟩
@[reducible] def sh29 : Shape := ⟨[(0, .one (.d (.int .i64))), (1, .one (.d (.int .i64)))], []⟩
@[reducible] def out29 : Shape := ⟨[(0, .one (.d (.int .i64)))], []⟩
noncomputable def b29 : Code := Tryz.f29.body.getD .skip
noncomputable def cx29 : Cx := ⟨Tryz.prog, [], [], 15, [], []⟩
noncomputable def F29 : Int × Int × Unit → Option (Int × Unit) := func cx29 Tryz.f29 b29 sh29 out29
noncomputable def e29 : FE := ⟨29, sh29, out29, F29⟩
theorem ok29 : FEOK Tryz.prog e29 := func_ok (cx := cx29) (fn := Tryz.f29) (c := b29) (all_fe (P := Tryz.prog) (l := []) trivial) (by kernel_rfl) (by kernel_rfl) (by kernel_rfl) (by kernel_rfl) (by kernel_rfl) (needs_of (l := []) (by kernel_rfl) trivial)
@[reducible] def sh54 : Shape := ⟨[(0, .one (.d (.int .i64))), (1, .one (.d (.int .i64)))], []⟩
@[reducible] def out54 : Shape := ⟨[(0, .one (.d (.int .i64)))], []⟩
noncomputable def b54 : Code := Tryz.f54.body.getD .skip
noncomputable def cx54 : Cx := ⟨Tryz.prog, [], [], 15, [], []⟩
noncomputable def F54 : Int × Int × Unit → Option (Int × Unit) := func cx54 Tryz.f54 b54 sh54 out54
noncomputable def e54 : FE := ⟨54, sh54, out54, F54⟩
@[reducible] def sh32 : Shape := ⟨[(0, .one (.d (.int .i64))), (1, .one (.d (.int .i64)))], []⟩
@[reducible] def out32 : Shape := ⟨[(0, .row [.d (.int .i64), .d (.int .i64), .d (.int .i64), .d .str])], []⟩
noncomputable def b32 : Code := Tryz.f32.body.getD .skip
@[reducible] def sh32_0 : Shape := ⟨[(4, .one (.ptr 200000 0)), (6, .one (.ptr 200001 0)), (7, .one (.own 200002)), (8, .one (.d (.int .i64))), (9, .one (.d (.int .i64)))], [(200000, .box 34 [.d (.int .i64), .d (.int .i64), .d (.int .i64), .d .str]), (200001, .box 34 [.d (.int .i64), .d (.int .i64), .d (.int .i64), .d .str]), (200002, .lst 9 .str true)]⟩
@[reducible] def os32_0 : List (XE × Shape) := [(.ex 1, ⟨[(4, .one (.ptr 200000 0)), (6, .one (.ptr 200001 0))], [(200000, .box 34 [.d (.int .i64), .d (.int .i64), .d (.int .i64), .d .str]), (200001, .box 34 [.d (.int .i64), .d (.int .i64), .d (.int .i64), .d .str])]⟩)]
noncomputable def cx32_0 : Cx := ⟨Tryz.prog, [e54], [], 78, [], []⟩
noncomputable def B32_0 : Int × Int × Int × Int × Int × ByteArray × Int × Int × Int × ByteArray × List ByteArray × Unit → Option ((Int × Int × Int × Int × Int × ByteArray × Int × Int × Int × ByteArray × List ByteArray × Unit) ⊕ Int × Int × Int × ByteArray × Int × Int × Int × ByteArray × Unit) := round cx32_0 (sub [1, 1, 1, 1, 1, 1, 0, 1, 0, 0] b32) sh32_0 os32_0
noncomputable def ce32_0 : CE := ⟨sh32_0, os32_0, loop B32_0⟩
noncomputable def cx32 : Cx := ⟨Tryz.prog, [e54], [], 78, [(26, ce32_0)], []⟩
noncomputable def F32 : Int × Int × Unit → Option (Int × Int × Int × ByteArray × Unit) := func cx32 Tryz.f32 b32 sh32 out32
noncomputable def e32 : FE := ⟨32, sh32, out32, F32⟩
@[reducible] def sh38 : Shape := ⟨[(0, .one (.d (.list (.int .i64))))], []⟩
@[reducible] def out38 : Shape := ⟨[(0, .one (.d (.list r7)))], []⟩
noncomputable def b38 : Code := Tryz.f38.body.getD .skip
@[reducible] def sh38_0 : Shape := ⟨[(0, .one (.d (.list (.int .i64)))), (3, .one (.own 200000)), (4, .one (.d (.int .i64)))], [(200000, .lst 57 r7 true)]⟩
@[reducible] def os38_0 : List (XE × Shape) := [(.ex 0, ⟨[(3, .one (.own 200000))], [(200000, .lst 57 r7 true)]⟩)]
noncomputable def cx38_0 : Cx := ⟨Tryz.prog, [e29, e32], [], 55, [], []⟩
noncomputable def B38_0 : List Int × Int × List R7 × Unit → Option ((List Int × Int × List R7 × Unit) ⊕ List R7 × Unit) := round cx38_0 (sub [1, 1, 0, 1, 0, 0] b38) sh38_0 os38_0
noncomputable def ce38_0 : CE := ⟨sh38_0, os38_0, loop B38_0⟩
noncomputable def cx38 : Cx := ⟨Tryz.prog, [e29, e32], [], 55, [(6, ce38_0)], []⟩
noncomputable def F38 : List Int × Unit → Option (List R7 × Unit) := func cx38 Tryz.f38 b38 sh38 out38
noncomputable def e38 : FE := ⟨38, sh38, out38, F38⟩
@[reducible] def sh15 : Shape := ⟨[(0, .one (.d (.list (.int .i64))))], []⟩
@[reducible] def out15 : Shape := ⟨[(0, .one (.d (.list r7)))], []⟩
noncomputable def b15 : Code := Tryz.f15.body.getD .skip
noncomputable def cx15 : Cx := ⟨Tryz.prog, [e36, e38], [], 6, [], []⟩
noncomputable def F15 : List Int × Unit → Option (List R7 × Unit) := func cx15 Tryz.f15 b15 sh15 out15
noncomputable def e15 : FE := ⟨15, sh15, out15, F15⟩
@[reducible] def sh19 : Shape := ⟨[(0, .one (.d (.list r7))), (1, .one (.d (.list r7)))], []⟩
@[reducible] def out19 : Shape := ⟨[(0, .one (.d .bool))], []⟩
noncomputable def b19 : Code := Tryz.f19.body.getD .skip
@[reducible] def sh19_0 : Shape := ⟨[(0, .one (.d (.list r7))), (1, .one (.d (.list r7))), (5, .one (.d (.int .i64)))], []⟩
@[reducible] def os19_0 : List (XE × Shape) := [(.ret, ⟨[(4, .one (.d .bool))], []⟩), (.ex 0, ⟨[], []⟩)]
noncomputable def cx19_0 : Cx := ⟨Tryz.prog, [], [], 26, [], []⟩
noncomputable def B19_0 : List R7 × List R7 × Int × Unit → Option ((List R7 × List R7 × Int × Unit) ⊕ (Bool × Unit) ⊕ (Unit)) := round cx19_0 (sub [1, 1, 0, 1, 0, 0] b19) sh19_0 os19_0
noncomputable def ce19_0 : CE := ⟨sh19_0, os19_0, loop B19_0⟩
noncomputable def cx19 : Cx := ⟨Tryz.prog, [], [], 26, [(8, ce19_0)], []⟩
noncomputable def F19 : List R7 × List R7 × Unit → Option (Bool × Unit) := func cx19 Tryz.f19 b19 sh19 out19
noncomputable def e19 : FE := ⟨19, sh19, out19, F19⟩
@[reducible] def sh21 : Shape := ⟨[(0, .one (.d (.list r7))), (1, .one (.d (.list r7)))], []⟩
@[reducible] def out21 : Shape := ⟨[(0, .one (.d (.list r7)))], []⟩
noncomputable def b21 : Code := Tryz.f21.body.getD .skip
noncomputable def cx21 : Cx := ⟨Tryz.prog, [e36], [], 11, [], []⟩
noncomputable def F21 : List R7 × List R7 × Unit → Option (List R7 × Unit) := func cx21 Tryz.f21 b21 sh21 out21
noncomputable def e21 : FE := ⟨21, sh21, out21, F21⟩
@[reducible] def sh27 : Shape := ⟨[], []⟩
@[reducible] def out27 : Shape := ⟨[(0, .row [.d (.int .i64), .d (.int .i64), .d (.int .i64), .d .str])], []⟩
noncomputable def b27 : Code := Tryz.f27.body.getD .skip
noncomputable def cx27 : Cx := ⟨Tryz.prog, [], [], 2, [], []⟩
noncomputable def F27 : Unit → Option (Int × Int × Int × ByteArray × Unit) := func cx27 Tryz.f27 b27 sh27 out27
noncomputable def e27 : FE := ⟨27, sh27, out27, F27⟩
@[reducible] def sh22 : Shape := ⟨[(0, .one (.d (.list r7)))], []⟩
@[reducible] def out22 : Shape := ⟨[(0, .one (.d (.list r7)))], []⟩
noncomputable def b22 : Code := Tryz.f22.body.getD .skip
@[reducible] def sh22_0 : Shape := ⟨[(0, .one (.d (.list r7))), (3, .one (.own 200000)), (4, .one (.ptr 200001 0)), (5, .one (.d (.int .i64)))], [(200000, .lst 57 r7 true), (200001, .box 57 [.d (.int .i64), .d (.int .i64), .d (.int .i64), .d .str, .d (.int .i64), .d (.int .i64), .d (.int .i64), .d .str, .d .bool, .d .bool, .d .bool])]⟩
@[reducible] def os22_0 : List (XE × Shape) := [(.ret, ⟨[(2, .one (.d (.list r7)))], []⟩), (.ex 0, ⟨[(3, .one (.own 200000)), (4, .one (.ptr 200001 0))], [(200000, .lst 57 r7 true), (200001, .box 57 [.d (.int .i64), .d (.int .i64), .d (.int .i64), .d .str, .d (.int .i64), .d (.int .i64), .d (.int .i64), .d .str, .d .bool, .d .bool, .d .bool])]⟩)]
noncomputable def cx22_0 : Cx := ⟨Tryz.prog, [e27, e36], [], 56, [], []⟩
noncomputable def B22_0 : List R7 × Int × List R7 × Int × Int × Int × ByteArray × Int × Int × Int × ByteArray × Bool × Bool × Bool × Unit → Option ((List R7 × Int × List R7 × Int × Int × Int × ByteArray × Int × Int × Int × ByteArray × Bool × Bool × Bool × Unit) ⊕ (List R7 × Unit) ⊕ (List R7 × Int × Int × Int × ByteArray × Int × Int × Int × ByteArray × Bool × Bool × Bool × Unit)) := round cx22_0 (sub [1, 1, 1, 0, 1, 0, 0] b22) sh22_0 os22_0
noncomputable def ce22_0 : CE := ⟨sh22_0, os22_0, loop B22_0⟩
noncomputable def cx22 : Cx := ⟨Tryz.prog, [e27, e36], [], 56, [(8, ce22_0)], []⟩
noncomputable def F22 : List R7 × Unit → Option (List R7 × Unit) := func cx22 Tryz.f22 b22 sh22 out22
noncomputable def e22 : FE := ⟨22, sh22, out22, F22⟩
@[reducible] def sh20 : Shape := ⟨[(0, .one (.d (.list r7))), (1, .one (.d (.list r7)))], []⟩
@[reducible] def out20 : Shape := ⟨[(0, .one (.d (.list r7)))], []⟩
noncomputable def b20 : Code := Tryz.f20.body.getD .skip
noncomputable def cx20 : Cx := ⟨Tryz.prog, [e21, e22], [], 11, [], []⟩
noncomputable def F20 : List R7 × List R7 × Unit → Option (List R7 × Unit) := func cx20 Tryz.f20 b20 sh20 out20
noncomputable def e20 : FE := ⟨20, sh20, out20, F20⟩
@[reducible] def sh23 : Shape := ⟨[(0, .one (.d (.list r7))), (1, .one (.d (.int .i64))), (2, .one (.d (.int .i64)))], []⟩
@[reducible] def out23 : Shape := ⟨[(0, .one (.d (.list r5)))], []⟩
noncomputable def b23 : Code := Tryz.f23.body.getD .skip
@[reducible] def sh23_0 : Shape := ⟨[(0, .one (.d (.list r7))), (7, .one (.own 200000)), (8, .one (.d (.int .i64)))], [(200000, .lst 34 r5 true)]⟩
@[reducible] def os23_0 : List (XE × Shape) := [(.ex 0, ⟨[(7, .one (.own 200000))], [(200000, .lst 34 r5 true)]⟩)]
noncomputable def cx23_0 : Cx := ⟨Tryz.prog, [e27, e32], [], 74, [], []⟩
noncomputable def B23_0 : List R7 × Int × List R5 × Unit → Option ((List R7 × Int × List R5 × Unit) ⊕ List R5 × Unit) := round cx23_0 (sub [1, 1, 0, 1, 0, 0] b23) sh23_0 os23_0
noncomputable def ce23_0 : CE := ⟨sh23_0, os23_0, loop B23_0⟩
noncomputable def cx23 : Cx := ⟨Tryz.prog, [e27, e32], [], 74, [(6, ce23_0)], []⟩
noncomputable def F23 : List R7 × Int × Int × Unit → Option (List R5 × Unit) := func cx23 Tryz.f23 b23 sh23 out23
noncomputable def e23 : FE := ⟨23, sh23, out23, F23⟩
@[reducible] def sh25 : Shape := ⟨[(0, .one (.d (.list r7))), (1, .row [.d (.int .i64), .d (.int .i64), .d (.int .i64), .d .str])], []⟩
@[reducible] def out25 : Shape := ⟨[(0, .one (.d .bool))], []⟩
noncomputable def b25 : Code := Tryz.f25.body.getD .skip
@[reducible] def sh25_0 : Shape := ⟨[(0, .one (.d (.list r7))), (3, .one (.ptr 200000 0)), (5, .one (.d (.int .i64)))], [(200000, .box 34 [.d (.int .i64), .d (.int .i64), .d (.int .i64), .d .str])]⟩
@[reducible] def os25_0 : List (XE × Shape) := [(.ret, ⟨[(4, .one (.d .bool))], []⟩), (.ex 0, ⟨[], []⟩)]
noncomputable def cx25_0 : Cx := ⟨Tryz.prog, [e26], [], 54, [], []⟩
noncomputable def B25_0 : List R7 × Int × Int × Int × Int × ByteArray × Unit → Option ((List R7 × Int × Int × Int × Int × ByteArray × Unit) ⊕ (Bool × Unit) ⊕ (Unit)) := round cx25_0 (sub [1, 0, 1, 0, 0] b25) sh25_0 os25_0
noncomputable def ce25_0 : CE := ⟨sh25_0, os25_0, loop B25_0⟩
noncomputable def cx25 : Cx := ⟨Tryz.prog, [e26], [], 54, [(4, ce25_0)], []⟩
noncomputable def F25 : List R7 × Int × Int × Int × ByteArray × Unit → Option (Bool × Unit) := func cx25 Tryz.f25 b25 sh25 out25
noncomputable def e25 : FE := ⟨25, sh25, out25, F25⟩
@[reducible] def sh55 : Shape := ⟨[(0, .one (.d (.int .i64)))], []⟩
@[reducible] def out55 : Shape := ⟨[(0, .one (.d .str))], []⟩
noncomputable def b55 : Code := Tryz.f55.body.getD .skip
noncomputable def cxr55 (X : sh55.D → Option out55.D) : Cx := ⟨Tryz.prog, (⟨55, sh55, out55, X⟩ :: []), [], 17, [], []⟩
noncomputable def FX55 (X : Int × Unit → Option (ByteArray × Unit)) : Int × Unit → Option (ByteArray × Unit) := func (cxr55 X) Tryz.f55 b55 sh55 out55
noncomputable def FR55 : Nat → sh55.D → Option out55.D | 0 => fun _ => none | k + 1 => FX55 (FR55 k)
noncomputable def F55 : Int × Unit → Option (ByteArray × Unit) := FR55 30
noncomputable def e55 : FE := ⟨55, sh55, out55, F55⟩
@[reducible] def sh33 : Shape := ⟨[(0, .row [.d (.int .i64), .d (.int .i64), .d (.int .i64), .d .str])], []⟩
@[reducible] def out33 : Shape := ⟨[(0, .one (.d .str))], []⟩
noncomputable def b33 : Code := Tryz.f33.body.getD .skip
noncomputable def cx33 : Cx := ⟨Tryz.prog, [e55], [], 27, [], []⟩
noncomputable def F33 : Int × Int × Int × ByteArray × Unit → Option (ByteArray × Unit) := func cx33 Tryz.f33 b33 sh33 out33
noncomputable def e33 : FE := ⟨33, sh33, out33, F33⟩
@[reducible] def sh76 : Shape := ⟨[(0, .one (.d (.int .i64)))], []⟩
@[reducible] def out76 : Shape := ⟨[(0, .one (.d .str))], []⟩
noncomputable def b76 : Code := Tryz.f76.body.getD .skip
noncomputable def cx76 : Cx := ⟨Tryz.prog, [e32, e33], [], 9, [], []⟩
noncomputable def F76 : Int × Unit → Option (ByteArray × Unit) := func cx76 Tryz.f76 b76 sh76 out76
noncomputable def e76 : FE := ⟨76, sh76, out76, F76⟩
@[reducible] def sh49 : Shape := ⟨[(0, .one (.d (.int .i64)))], []⟩
@[reducible] def out49 : Shape := ⟨[(0, .one (.d .str))], []⟩
noncomputable def b49 : Code := Tryz.f49.body.getD .skip
noncomputable def cx49 : Cx := ⟨Tryz.prog, [e29, e76], [], 55, [], []⟩
noncomputable def F49 : Int × Unit → Option (ByteArray × Unit) := func cx49 Tryz.f49 b49 sh49 out49
noncomputable def e49 : FE := ⟨49, sh49, out49, F49⟩
@[reducible] def sh28 : Shape := ⟨[(0, .one (.d (.list (.int .i64))))], []⟩
@[reducible] def out28 : Shape := ⟨[(0, .one (.d .str))], []⟩
noncomputable def b28 : Code := Tryz.f28.body.getD .skip
@[reducible] def sh28_0 : Shape := ⟨[(0, .one (.d (.list (.int .i64)))), (3, .one (.d .str)), (4, .one (.d (.int .i64)))], []⟩
@[reducible] def os28_0 : List (XE × Shape) := [(.ex 0, ⟨[(3, .one (.d .str))], []⟩)]
noncomputable def cx28_0 : Cx := ⟨Tryz.prog, [e29, e49], [], 39, [], []⟩
noncomputable def B28_0 : List Int × ByteArray × Int × Unit → Option ((List Int × ByteArray × Int × Unit) ⊕ ByteArray × Unit) := round cx28_0 (sub [1, 1, 0, 1, 0, 0] b28) sh28_0 os28_0
noncomputable def ce28_0 : CE := ⟨sh28_0, os28_0, loop B28_0⟩
noncomputable def cx28 : Cx := ⟨Tryz.prog, [e29, e49], [], 39, [(6, ce28_0)], []⟩
noncomputable def F28 : List Int × Unit → Option (ByteArray × Unit) := func cx28 Tryz.f28 b28 sh28 out28
noncomputable def e28 : FE := ⟨28, sh28, out28, F28⟩
@[reducible] def sh84 : Shape := ⟨[(0, .one (.ptr 100000 0))], [(100000, .box 86 [.d .str, .d (.int .i64)])]⟩
@[reducible] def out84 : Shape := ⟨[], [(100000, .box 86 [.d .str, .d (.int .i64)])]⟩
noncomputable def b84 : Code := Tryz.f84.body.getD .skip
@[reducible] def sh84_0 : Shape := ⟨[(0, .one (.ptr 100000 0))], [(100000, .box 86 [.d .str, .d (.int .i64)])]⟩
@[reducible] def os84_0 : List (XE × Shape) := [(.ex 0, ⟨[], [(100000, .box 86 [.d .str, .d (.int .i64)])]⟩)]
noncomputable def cx84_0 : Cx := ⟨Tryz.prog, [], [], 31, [], []⟩
noncomputable def B84_0 : ByteArray × Int × Unit → Option ((ByteArray × Int × Unit) ⊕ ByteArray × Int × Unit) := round cx84_0 (sub [0, 0] b84) sh84_0 os84_0
noncomputable def ce84_0 : CE := ⟨sh84_0, os84_0, loop B84_0⟩
noncomputable def cx84 : Cx := ⟨Tryz.prog, [], [], 31, [(0, ce84_0)], []⟩
noncomputable def F84 : ByteArray × Int × Unit → Option (ByteArray × Int × Unit) := func cx84 Tryz.f84 b84 sh84 out84
noncomputable def e84 : FE := ⟨84, sh84, out84, F84⟩
@[reducible] def sh85 : Shape := ⟨[(0, .one (.ptr 100000 0))], [(100000, .box 86 [.d .str, .d (.int .i64)])]⟩
@[reducible] def out85 : Shape := ⟨[(0, .one (.d .str)), (1, .one (.d (.int .i64)))], [(100000, .box 86 [.d .str, .d (.int .i64)])]⟩
noncomputable def b85 : Code := Tryz.f85.body.getD .skip
@[reducible] def sh85_0 : Shape := ⟨[(0, .one (.ptr 100000 0)), (4, .one (.d (.int .i64)))], [(100000, .box 86 [.d .str, .d (.int .i64)])]⟩
@[reducible] def os85_0 : List (XE × Shape) := [(.ex 0, ⟨[(0, .one (.ptr 100000 0)), (4, .one (.d (.int .i64)))], [(100000, .box 86 [.d .str, .d (.int .i64)])]⟩)]
noncomputable def cx85_0 : Cx := ⟨Tryz.prog, [e84], [], 65, [], []⟩
noncomputable def B85_0 : Int × ByteArray × Int × Unit → Option ((Int × ByteArray × Int × Unit) ⊕ Int × ByteArray × Int × Unit) := round cx85_0 (sub [1, 1, 0, 0, 0] b85) sh85_0 os85_0
noncomputable def ce85_0 : CE := ⟨sh85_0, os85_0, loop B85_0⟩
noncomputable def cx85 : Cx := ⟨Tryz.prog, [e84], [], 65, [(4, ce85_0)], []⟩
noncomputable def F85 : ByteArray × Int × Unit → Option (ByteArray × Int × ByteArray × Int × Unit) := func cx85 Tryz.f85 b85 sh85 out85
noncomputable def e85 : FE := ⟨85, sh85, out85, F85⟩
@[reducible] def sh145 : Shape := ⟨[(0, .row [.d (.int .i64), .d (.int .i64), .d (.int .i64), .d .str]), (1, .one (.d (.int .i64)))], []⟩
@[reducible] def out145 : Shape := ⟨[(0, .row [.d (.int .i64), .d (.int .i64), .d (.int .i64), .d .str, .d (.int .i64), .d (.int .i64), .d (.int .i64), .d .str, .d .bool, .d .bool, .d .bool])], []⟩
noncomputable def b145 : Code := Tryz.f145.body.getD .skip
@[reducible] def sh145_0 : Shape := ⟨[(1, .one (.d (.int .i64))), (4, .one (.ptr 200000 0)), (5, .one (.ptr 200001 0)), (6, .one (.ptr 200002 0))], [(200000, .box 57 [.d (.int .i64), .d (.int .i64), .d (.int .i64), .d .str, .d (.int .i64), .d (.int .i64), .d (.int .i64), .d .str, .d .bool, .d .bool, .d .bool]), (200001, .box 57 [.d (.int .i64), .d (.int .i64), .d (.int .i64), .d .str, .d (.int .i64), .d (.int .i64), .d (.int .i64), .d .str, .d .bool, .d .bool, .d .bool]), (200002, .box 92 [.d (.int .i64), .d (.int .i64), .d (.int .i64)])]⟩
@[reducible] def os145_0 : List (XE × Shape) := [(.ex 0, ⟨[(1, .one (.d (.int .i64))), (4, .one (.ptr 200000 0)), (5, .one (.ptr 200001 0)), (6, .one (.ptr 200002 0))], [(200000, .box 57 [.d (.int .i64), .d (.int .i64), .d (.int .i64), .d .str, .d (.int .i64), .d (.int .i64), .d (.int .i64), .d .str, .d .bool, .d .bool, .d .bool]), (200001, .box 57 [.d (.int .i64), .d (.int .i64), .d (.int .i64), .d .str, .d (.int .i64), .d (.int .i64), .d (.int .i64), .d .str, .d .bool, .d .bool, .d .bool]), (200002, .box 92 [.d (.int .i64), .d (.int .i64), .d (.int .i64)])]⟩)]
noncomputable def cx145_0 : Cx := ⟨Tryz.prog, [], [], 57, [], []⟩
noncomputable def B145_0 : Int × Int × Int × Int × ByteArray × Int × Int × Int × ByteArray × Bool × Bool × Bool × Int × Int × Int × ByteArray × Int × Int × Int × ByteArray × Bool × Bool × Bool × Int × Int × Int × Unit → Option ((Int × Int × Int × Int × ByteArray × Int × Int × Int × ByteArray × Bool × Bool × Bool × Int × Int × Int × ByteArray × Int × Int × Int × ByteArray × Bool × Bool × Bool × Int × Int × Int × Unit) ⊕ Int × Int × Int × Int × ByteArray × Int × Int × Int × ByteArray × Bool × Bool × Bool × Int × Int × Int × ByteArray × Int × Int × Int × ByteArray × Bool × Bool × Bool × Int × Int × Int × Unit) := round cx145_0 (sub [1, 1, 1, 0, 0, 0] b145) sh145_0 os145_0
noncomputable def ce145_0 : CE := ⟨sh145_0, os145_0, loop B145_0⟩
@[reducible] def sh145_1 : Shape := ⟨[(1, .one (.d (.int .i64))), (4, .one (.ptr 200000 0)), (5, .one (.ptr 200001 0)), (6, .one (.ptr 200002 0)), (7, .one (.d (.int .i64)))], [(200000, .box 57 [.d (.int .i64), .d (.int .i64), .d (.int .i64), .d .str, .d (.int .i64), .d (.int .i64), .d (.int .i64), .d .str, .d .bool, .d .bool, .d .bool]), (200001, .box 57 [.d (.int .i64), .d (.int .i64), .d (.int .i64), .d .str, .d (.int .i64), .d (.int .i64), .d (.int .i64), .d .str, .d .bool, .d .bool, .d .bool]), (200002, .box 92 [.d (.int .i64), .d (.int .i64), .d (.int .i64)])]⟩
@[reducible] def os145_1 : List (XE × Shape) := [(.ex 2, ⟨[(4, .one (.ptr 200000 0)), (5, .one (.ptr 200001 0)), (6, .one (.ptr 200002 0))], [(200000, .box 57 [.d (.int .i64), .d (.int .i64), .d (.int .i64), .d .str, .d (.int .i64), .d (.int .i64), .d (.int .i64), .d .str, .d .bool, .d .bool, .d .bool]), (200001, .box 57 [.d (.int .i64), .d (.int .i64), .d (.int .i64), .d .str, .d (.int .i64), .d (.int .i64), .d (.int .i64), .d .str, .d .bool, .d .bool, .d .bool]), (200002, .box 92 [.d (.int .i64), .d (.int .i64), .d (.int .i64)])]⟩)]
noncomputable def cx145_1 : Cx := ⟨Tryz.prog, [], [], 57, [(6, ce145_0)], []⟩
noncomputable def B145_1 : Int × Int × Int × Int × Int × ByteArray × Int × Int × Int × ByteArray × Bool × Bool × Bool × Int × Int × Int × ByteArray × Int × Int × Int × ByteArray × Bool × Bool × Bool × Int × Int × Int × Unit → Option ((Int × Int × Int × Int × Int × ByteArray × Int × Int × Int × ByteArray × Bool × Bool × Bool × Int × Int × Int × ByteArray × Int × Int × Int × ByteArray × Bool × Bool × Bool × Int × Int × Int × Unit) ⊕ Int × Int × Int × ByteArray × Int × Int × Int × ByteArray × Bool × Bool × Bool × Int × Int × Int × ByteArray × Int × Int × Int × ByteArray × Bool × Bool × Bool × Int × Int × Int × Unit) := round cx145_1 (sub [1, 1, 1, 1, 1, 0, 1, 0, 0] b145) sh145_1 os145_1
noncomputable def ce145_1 : CE := ⟨sh145_1, os145_1, loop B145_1⟩
noncomputable def cx145 : Cx := ⟨Tryz.prog, [], [], 57, [(6, ce145_0), (18, ce145_1)], []⟩
noncomputable def F145 : Int × Int × Int × ByteArray × Int × Unit → Option (Int × Int × Int × ByteArray × Int × Int × Int × ByteArray × Bool × Bool × Bool × Unit) := func cx145 Tryz.f145 b145 sh145 out145
noncomputable def e145 : FE := ⟨145, sh145, out145, F145⟩
@[reducible] def sh107 : Shape := ⟨[(0, .one (.d .str))], []⟩
@[reducible] def out107 : Shape := ⟨[(0, .row [.d (.int .i64), .d (.int .i64), .d (.int .i64), .d .str, .d (.int .i64), .d (.int .i64), .d (.int .i64), .d .str, .d .bool, .d .bool, .d .bool]), (1, .one (.d .bool))], []⟩
noncomputable def b107 : Code := Tryz.f107.body.getD .skip
@[reducible] def sh107_0 : Shape := ⟨[(2, .one (.ptr 200000 0)), (4, .one (.d .str)), (5, .one (.d (.int .i64)))], [(200000, .box 57 [.d (.int .i64), .d (.int .i64), .d (.int .i64), .d .str, .d (.int .i64), .d (.int .i64), .d (.int .i64), .d .str, .d .bool, .d .bool, .d .bool])]⟩
@[reducible] def os107_0 : List (XE × Shape) := [(.ex 0, ⟨[(2, .one (.ptr 200000 0)), (4, .one (.d .str)), (5, .one (.d (.int .i64)))], [(200000, .box 57 [.d (.int .i64), .d (.int .i64), .d (.int .i64), .d .str, .d (.int .i64), .d (.int .i64), .d (.int .i64), .d .str, .d .bool, .d .bool, .d .bool])]⟩)]
noncomputable def cx107_0 : Cx := ⟨Tryz.prog, [e63, e145], [], 87, [], []⟩
noncomputable def B107_0 : ByteArray × Int × Int × Int × Int × ByteArray × Int × Int × Int × ByteArray × Bool × Bool × Bool × Unit → Option ((ByteArray × Int × Int × Int × Int × ByteArray × Int × Int × Int × ByteArray × Bool × Bool × Bool × Unit) ⊕ ByteArray × Int × Int × Int × Int × ByteArray × Int × Int × Int × ByteArray × Bool × Bool × Bool × Unit) := round cx107_0 (sub [1, 1, 1, 1, 0, 0, 0] b107) sh107_0 os107_0
noncomputable def ce107_0 : CE := ⟨sh107_0, os107_0, loop B107_0⟩
noncomputable def cx107 : Cx := ⟨Tryz.prog, [e63, e145], [], 87, [(10, ce107_0)], []⟩
noncomputable def F107 : ByteArray × Unit → Option (Int × Int × Int × ByteArray × Int × Int × Int × ByteArray × Bool × Bool × Bool × Bool × Unit) := func cx107 Tryz.f107 b107 sh107 out107
noncomputable def e107 : FE := ⟨107, sh107, out107, F107⟩
@[reducible] def sh108 : Shape := ⟨[(0, .one (.d .str)), (1, .row [.d (.int .i64), .d (.int .i64), .d (.int .i64), .d .str])], []⟩
@[reducible] def out108 : Shape := ⟨[(0, .one (.d (.list r7)))], []⟩
noncomputable def b108 : Code := Tryz.f108.body.getD .skip
noncomputable def cx108 : Cx := ⟨Tryz.prog, [e22, e27, e145], [], 63, [], []⟩
noncomputable def F108 : ByteArray × Int × Int × Int × ByteArray × Unit → Option (List R7 × Unit) := func cx108 Tryz.f108 b108 sh108 out108
noncomputable def e108 : FE := ⟨108, sh108, out108, F108⟩
@[reducible] def sh86 : Shape := ⟨[(0, .one (.d .str))], []⟩
@[reducible] def out86 : Shape := ⟨[(0, .one (.d (.list r7))), (1, .one (.d .bool)), (2, .one (.d .bool))], []⟩
noncomputable def b86 : Code := Tryz.f86.body.getD .skip
@[reducible] def sh86_0 : Shape := ⟨[(0, .one (.d .str)), (7, .one (.own 200000)), (8, .one (.d (.int .i64)))], [(200000, .lst 9 .str true)]⟩
@[reducible] def os86_0 : List (XE × Shape) := [(.ret, ⟨[(2, .one (.d (.list r7))), (3, .one (.d .bool)), (4, .one (.d .bool))], []⟩), (.ex 0, ⟨[], []⟩)]
noncomputable def cx86_0 : Cx := ⟨Tryz.prog, [e22, e36, e37, e107, e108], [], 71, [], []⟩
noncomputable def B86_0 : ByteArray × Int × List ByteArray × Unit → Option ((ByteArray × Int × List ByteArray × Unit) ⊕ (List R7 × Bool × Bool × Unit) ⊕ (Unit)) := round cx86_0 (sub [1, 1, 1, 1, 0, 1, 0, 0] b86) sh86_0 os86_0
noncomputable def ce86_0 : CE := ⟨sh86_0, os86_0, loop B86_0⟩
noncomputable def cx86 : Cx := ⟨Tryz.prog, [e22, e36, e37, e107, e108], [], 71, [(16, ce86_0)], []⟩
noncomputable def F86 : ByteArray × Unit → Option (List R7 × Bool × Bool × Unit) := func cx86 Tryz.f86 b86 sh86 out86
noncomputable def e86 : FE := ⟨86, sh86, out86, F86⟩
@[reducible] def sh53 : Shape := ⟨[(0, .one (.ptr 100000 0))], [(100000, .box 86 [.d .str, .d (.int .i64)])]⟩
@[reducible] def out53 : Shape := ⟨[(0, .one (.d (.list r7))), (1, .one (.d (.int .i64))), (2, .one (.d .bool))], [(100000, .box 86 [.d .str, .d (.int .i64)])]⟩
noncomputable def b53 : Code := Tryz.f53.body.getD .skip
@[reducible] def sh53_0 : Shape := ⟨[(0, .one (.ptr 100000 0)), (5, .one (.d (.list r7))), (6, .one (.d (.int .i64)))], [(100000, .box 86 [.d .str, .d (.int .i64)])]⟩
@[reducible] def os53_0 : List (XE × Shape) := [(.ret, ⟨[(2, .one (.d (.list r7))), (3, .one (.d (.int .i64))), (4, .one (.d .bool))], [(100000, .box 86 [.d .str, .d (.int .i64)])]⟩)]
noncomputable def cx53_0 : Cx := ⟨Tryz.prog, [e20, e22, e36, e37, e84, e85, e86], [], 121, [], []⟩
noncomputable def B53_0 : List R7 × Int × ByteArray × Int × Unit → Option ((List R7 × Int × ByteArray × Int × Unit) ⊕ List R7 × Int × Bool × ByteArray × Int × Unit) := round cx53_0 (sub [1, 1, 1, 1, 0, 0] b53) sh53_0 os53_0
noncomputable def ce53_0 : CE := ⟨sh53_0, os53_0, loop B53_0⟩
noncomputable def cx53 : Cx := ⟨Tryz.prog, [e20, e22, e36, e37, e84, e85, e86], [], 121, [(10, ce53_0)], []⟩
noncomputable def F53 : ByteArray × Int × Unit → Option (List R7 × Int × Bool × ByteArray × Int × Unit) := func cx53 Tryz.f53 b53 sh53 out53
noncomputable def e53 : FE := ⟨53, sh53, out53, F53⟩
@[reducible] def sh31 : Shape := ⟨[(0, .one (.d .str))], []⟩
@[reducible] def out31 : Shape := ⟨[(0, .one (.d (.list r7))), (1, .one (.d (.int .i64))), (2, .one (.d (.int .i64)))], []⟩
noncomputable def b31 : Code := Tryz.f31.body.getD .skip
@[reducible] def sh31_0 : Shape := ⟨[(0, .one (.d .str)), (5, .one (.ptr 200000 0)), (6, .one (.d (.list r7)))], [(200000, .box 86 [.d .str, .d (.int .i64)])]⟩
@[reducible] def os31_0 : List (XE × Shape) := [(.ret, ⟨[(2, .one (.d (.list r7))), (3, .one (.d (.int .i64))), (4, .one (.d (.int .i64)))], []⟩)]
noncomputable def cx31_0 : Cx := ⟨Tryz.prog, [e21, e53], [], 64, [], []⟩
noncomputable def B31_0 : ByteArray × List R7 × ByteArray × Int × Unit → Option ((ByteArray × List R7 × ByteArray × Int × Unit) ⊕ List R7 × Int × Int × Unit) := round cx31_0 (sub [1, 1, 1, 0, 0] b31) sh31_0 os31_0
noncomputable def ce31_0 : CE := ⟨sh31_0, os31_0, loop B31_0⟩
noncomputable def cx31 : Cx := ⟨Tryz.prog, [e21, e53], [], 64, [(6, ce31_0)], []⟩
noncomputable def F31 : ByteArray × Unit → Option (List R7 × Int × Int × Unit) := func cx31 Tryz.f31 b31 sh31 out31
noncomputable def e31 : FE := ⟨31, sh31, out31, F31⟩
@[reducible] def sh35 : Shape := ⟨[(0, .one (.d (.list r7)))], []⟩
@[reducible] def out35 : Shape := ⟨[(0, .one (.d .str))], []⟩
noncomputable def b35 : Code := Tryz.f35.body.getD .skip
@[reducible] def sh35_0 : Shape := ⟨[(0, .one (.d (.list r7))), (3, .one (.d .str)), (4, .one (.d (.int .i64)))], []⟩
@[reducible] def os35_0 : List (XE × Shape) := [(.ex 0, ⟨[(3, .one (.d .str))], []⟩)]
noncomputable def cx35_0 : Cx := ⟨Tryz.prog, [e33], [], 56, [], []⟩
noncomputable def B35_0 : List R7 × ByteArray × Int × Unit → Option ((List R7 × ByteArray × Int × Unit) ⊕ ByteArray × Unit) := round cx35_0 (sub [1, 1, 1, 0, 1, 0, 0] b35) sh35_0 os35_0
noncomputable def ce35_0 : CE := ⟨sh35_0, os35_0, loop B35_0⟩
noncomputable def cx35 : Cx := ⟨Tryz.prog, [e33], [], 56, [(10, ce35_0)], []⟩
noncomputable def F35 : List R7 × Unit → Option (ByteArray × Unit) := func cx35 Tryz.f35 b35 sh35 out35
noncomputable def e35 : FE := ⟨35, sh35, out35, F35⟩
@[reducible] def sh72o : Shape := ⟨[(0, .one (.own 100000))], [(100000, .lst 57 r7 false)]⟩
@[reducible] def out72o : Shape := ⟨[(0, .one (.os 100000 11))], [(100000, .lst 57 r7 false)]⟩
noncomputable def b72o : Code := Tryz.f72.body.getD .skip
noncomputable def cx72o : Cx := ⟨Tryz.prog, [], [], 9, [], []⟩
noncomputable def F72o : List R7 × Unit → Option (Nat × Nat × List R7 × Unit) := func cx72o Tryz.f72 b72o sh72o out72o
noncomputable def e72o : FE := ⟨72, sh72o, out72o, F72o⟩
end Go.Vx.Z
/-! Loops, whole numbers. -/
namespace Go.Vx
open Go
set_option linter.unusedVariables false
section
variable {P E : Type} {B : P → Option (P ⊕ E)}
theorem loop_end {p : P} {e : E} (h : B p = some (.inr e)) : loop B p = some e := loop_of_iter (n := 1) (by simp [iter, h])
theorem loop_step {p q : P} {e : E} (h : B p = some (.inl q)) (hq : loop B q = some e) : loop B p = some e := by
  obtain ⟨n, hn⟩ := loop_iter hq
  exact loop_of_iter (n := n + 1) (by simp [iter, h, hn])
theorem loop_inv (I : P → Prop) (m : P → Nat) (Q : E → Prop) (h : ∀ p, I p → (∃ q, B p = some (.inl q) ∧ I q ∧ m q < m p) ∨ (∃ e, B p = some (.inr e) ∧ Q e)) : ∀ p, I p → ∃ e, loop B p = some e ∧ Q e := by
  have key : ∀ n p, m p < n → I p → ∃ e, loop B p = some e ∧ Q e := by
    intro n
    induction n with
    | zero => intro p hn; omega
    | succ n ih =>
      intro p hn hp
      rcases h p hp with ⟨q, h1, h2, h3⟩ | ⟨e, h1, h2⟩
      · obtain ⟨e, h4, h5⟩ := ih q (by omega) h2
        exact ⟨e, loop_step h1 h4, h5⟩
      · exact ⟨e, loop_end h1, h2⟩
  intro p hp
  exact key (m p + 1) p (by omega) hp
theorem loop_row (st : Nat → P) (n : Nat) {e : E} (h : ∀ i, i < n → B (st i) = some (.inl (st (i + 1)))) (he : B (st n) = some (.inr e)) : loop B (st 0) = some e := by
  have key : ∀ k, k ≤ n → loop B (st (n - k)) = some e := by
    intro k
    induction k with
    | zero => intro _; exact loop_end he
    | succ k ih =>
      intro hk
      refine loop_step (h (n - (k + 1)) (by omega)) ?_
      rw [show n - (k + 1) + 1 = n - k by omega]
      exact ih (by omega)
  have := key n (Nat.le_refl _)
  rwa [Nat.sub_self] at this
end
theorem wrap64 {x : Int} (h0 : -9223372036854775808 ≤ x) (h1 : x ≤ 9223372036854775807) : IntKind.wrap IntKind.i64 x = x := IntWalk.i64_in x (by omega)
theorem wrap8 {x : Int} (h0 : 0 ≤ x) (h1 : x ≤ 255) : IntKind.wrap IntKind.u8 x = x := by
  show x % 256 = x
  omega
theorem wrap64s (i : Nat) (h : i < 9223372036854775807) : IntKind.wrap IntKind.i64 ((i : Int) + 1) = ((i + 1 : Nat) : Int) := by
  rw [wrap64 (by omega) (by omega)]; omega
def bs (s : ByteArray) : List UInt8 := s.data.toList
theorem bs_size (s : ByteArray) : s.size = (bs s).length := (Array.length_toList (xs := s.data)).symm
theorem bs_toList (s : ByteArray) : bl s = bs s := rfl
theorem bs_inj {a b : ByteArray} (h : bs a = bs b) : a = b := by
  cases a; cases b
  simp only [bs, ByteArray.mk.injEq] at h ⊢
  exact Array.toList_inj.1 h
theorem bs_lit (l : List UInt8) : bs (lit l) = l := rfl
theorem bs_extract (s : ByteArray) (i j : Nat) : bs (s.extract i j) = ((bs s).take j).drop i := by
  simp [bs, ByteArray.data_extract, List.drop_take]
theorem bt_eq (s : ByteArray) (i : Nat) (h : i < s.size) : bt s (i : Int) = (((bs s)[i]'(by rw [← bs_size]; exact h)).toNat : Int) := by
  unfold bt
  have : s[i]? = some ((bs s)[i]'(by rw [← bs_size]; exact h)) := by
    rw [getElem?_pos s i h]
    simp [bs, ByteArray.getElem_eq_getElem_data]
  simp [this]
end Go.Vx
namespace Go.Vx.Z
open Go Go.Vx Go.Proofs
set_option linter.unusedVariables false
set_option maxRecDepth 1000000
set_option maxHeartbeats 4000000
theorem B39_0_eq (x0 : List R7) (x1 x2 : Int) (x3 : List R8) : B39_0 (x0, x1, x2, x3, ()) =
  bif decide (x2 < x1) then bif decide (Int.ofNat 0 ≤ x2) then Option.bind x0[Int.toNat x2]? fun y => bif y.2.2.2.2.2.2.2.2.2.2.1 then bif decide (List.length x3 + List.length [(y.1, y.2.1, y.2.2.1, y.2.2.2.1, y.2.2.2.2.2.2.2.2.1, false, Int.ofNat 0, Int.ofNat 0, Int.ofNat 0, (lit []), false, true, ())] ≤ 1466015503701) then some (Sum.inl (x0, x1, IntKind.wrap IntKind.i64 (x2 + Int.ofNat 1), x3 ++ [(y.1, y.2.1, y.2.2.1, y.2.2.2.1, y.2.2.2.2.2.2.2.2.1, false, Int.ofNat 0, Int.ofNat 0, Int.ofNat 0, (lit []), false, true, ())], ())) else none else bif decide (List.length x3 + List.length [(y.1, y.2.1, y.2.2.1, y.2.2.2.1, y.2.2.2.2.2.2.2.2.1, false, y.2.2.2.2.1, y.2.2.2.2.2.1, y.2.2.2.2.2.2.1, y.2.2.2.2.2.2.2.1, y.2.2.2.2.2.2.2.2.2.1, false, ())] ≤ 1466015503701) then some (Sum.inl (x0, x1, IntKind.wrap IntKind.i64 (x2 + Int.ofNat 1), x3 ++ [(y.1, y.2.1, y.2.2.1, y.2.2.2.1, y.2.2.2.2.2.2.2.2.1, false, y.2.2.2.2.1, y.2.2.2.2.2.1, y.2.2.2.2.2.2.1, y.2.2.2.2.2.2.2.1, y.2.2.2.2.2.2.2.2.2.1, false, ())], ())) else none else none else some (Sum.inr (x3, ())) := by kernel_rfl
theorem F39_eq (x0 : List R7) : F39 (x0, ()) =
  Option.bind (loop B39_0 (x0, Int.ofNat (List.length x0), Int.ofNat 0, [], ())) fun r => some (r.1, ()) := by kernel_rfl
theorem B66_0_eq (x0 : Int) (x1 : List Int) (x2 x3 : Int) : B66_0 (x0, x1, x2, x3, ()) =
  bif decide (x3 < x2) then bif decide (Int.ofNat 0 ≤ x3) then Option.bind x1[Int.toNat x3]? fun y => bif !y == x0 then some (Sum.inr (Sum.inl (y, ()))) else some (Sum.inl (x0, x1, x2, IntKind.wrap IntKind.i64 (x3 + Int.ofNat 1), ())) else none else some (Sum.inr (Sum.inr (x0, ()))) := by kernel_rfl
theorem F66_eq (x0 : List Int) : F66 (x0, ()) =
  Option.bind (loop B66_0 (Int.ofNat 0, x0, Int.ofNat (List.length x0), Int.ofNat 0, ())) fun r => Sum.elim (fun p => some (p.1, ())) (fun p => some (p.1, ())) r := by kernel_rfl
theorem F113_eq (x0 : Int) : F113 (x0, ()) =
  some (!x0 == x0, ()) := by kernel_rfl
theorem F92_eq (x0 x1 : Int) : F92 (x0, x1, ()) =
  Option.bind (F113 (x0, ())) fun r => Option.bind (F113 (x1, ())) fun r_1 => bif r.1 then bif r_1.1 then some (Int.ofNat 0, ()) else some (Int.negSucc 0, ()) else bif r_1.1 then some (Int.ofNat 1, ()) else bif decide (x0 < x1) then some (Int.negSucc 0, ()) else bif decide (x0 > x1) then some (Int.ofNat 1, ()) else some (Int.ofNat 0, ()) := by kernel_rfl
theorem F161_eq (x0 : ByteArray) (x1 : Int) : F161 (x0, x1, ()) =
  some (xIndexByte x0 x1, ()) := by kernel_rfl
theorem F162_eq (x0 x1 : ByteArray) : F162 (x0, x1, ()) =
  bif Int.ofNat (ByteArray.size x1) == Int.ofNat 0 then some (Int.ofNat 0, ()) else bif bl x1 == bl x0 then some (Int.ofNat 0, ()) else bif Int.ofNat (ByteArray.size x1) == Int.ofNat 1 then bif decide (Int.ofNat 0 < Int.ofNat (ByteArray.size x1)) then Option.bind (F161 (x0, bt x1 (Int.ofNat 0), ())) fun r => some (r.1, ()) else none else bif decide (Int.ofNat (ByteArray.size x1) ≥ Int.ofNat (ByteArray.size x0)) then some (Int.negSucc 0, ()) else none := by kernel_rfl
theorem F165_eq (x0 x1 : ByteArray) : F165 (x0, x1, ()) =
  Option.bind (F162 (x0, x1, ())) fun r => some (r.1, ()) := by kernel_rfl
theorem F164_eq (x0 x1 : ByteArray) : F164 (x0, x1, ()) =
  bif Int.ofNat (ByteArray.size x1) == Int.ofNat 0 then Option.bind (F176 (x0, ())) fun r => some (IntKind.wrap IntKind.i64 (r.1 + Int.ofNat 1), ()) else bif Int.ofNat (ByteArray.size x1) == Int.ofNat 1 then bif decide (Int.ofNat 0 < Int.ofNat (ByteArray.size x1)) then some (xCount x0 (bt x1 (Int.ofNat 0)), ()) else none else Option.bind (loop B164_0 (x0, x1, Int.ofNat 0, ())) fun r => some (r.1, ()) := by kernel_rfl
theorem B139_0_eq (x0 x1 : ByteArray) (x2 x3 x4 : Int) (x5 : List ByteArray) : B139_0 (x0, x1, x2, x3, x4, x5, ()) =
  bif decide (x4 < x3) then Option.bind (F165 (x0, x1, ())) fun r => bif decide (r.1 < Int.ofNat 0) then some (Sum.inr (x0, x4, x5, ())) else bif decide (Int.ofNat 0 ≤ IntKind.wrap IntKind.i64 (r.1 + x2)) && decide (IntKind.wrap IntKind.i64 (r.1 + x2) ≤ Int.ofNat (ByteArray.size x0)) then bif decide (Int.ofNat 0 ≤ x4) && decide (x4 < Int.ofNat (List.length x5)) then Option.bind x5[Int.toNat x4]? fun y => bif decide (Int.ofNat 0 ≤ IntKind.wrap IntKind.i64 (r.1 + Int.ofNat (ByteArray.size x1))) && (decide (IntKind.wrap IntKind.i64 (r.1 + Int.ofNat (ByteArray.size x1)) ≤ Int.ofNat (ByteArray.size x0)) && decide (Int.ofNat (ByteArray.size x0) ≤ Int.ofNat (ByteArray.size x0))) then some (Sum.inl (ByteArray.extract x0 (Int.toNat (IntKind.wrap IntKind.i64 (r.1 + Int.ofNat (ByteArray.size x1)))) (Int.toNat (Int.ofNat (ByteArray.size x0))), x1, x2, x3, IntKind.wrap IntKind.i64 (x4 + Int.ofNat 1), List.set x5 (Int.toNat x4) (ByteArray.extract x0 0 (Int.toNat (IntKind.wrap IntKind.i64 (r.1 + x2)))), ())) else none else none else none else some (Sum.inr (x0, x4, x5, ())) := by kernel_rfl
theorem F139_eq (x0 x1 : ByteArray) (x2 x3 : Int) : F139 (x0, x1, x2, x3, ()) =
  bif x3 == Int.ofNat 0 then some ([], ()) else bif bl x1 == [] then none else bif decide (x3 < Int.ofNat 0) then Option.bind (F164 (x0, x1, ())) fun r => bif decide (Int.ofNat 0 ≤ bif decide (IntKind.wrap IntKind.i64 (Int.ofNat (ByteArray.size x0) + Int.ofNat 1) < IntKind.wrap IntKind.i64 (r.1 + Int.ofNat 1)) then IntKind.wrap IntKind.i64 (Int.ofNat (ByteArray.size x0) + Int.ofNat 1) else IntKind.wrap IntKind.i64 (r.1 + Int.ofNat 1)) && (decide ((bif decide (IntKind.wrap IntKind.i64 (Int.ofNat (ByteArray.size x0) + Int.ofNat 1) < IntKind.wrap IntKind.i64 (r.1 + Int.ofNat 1)) then IntKind.wrap IntKind.i64 (Int.ofNat (ByteArray.size x0) + Int.ofNat 1) else IntKind.wrap IntKind.i64 (r.1 + Int.ofNat 1)) ≤ bif decide (IntKind.wrap IntKind.i64 (Int.ofNat (ByteArray.size x0) + Int.ofNat 1) < IntKind.wrap IntKind.i64 (r.1 + Int.ofNat 1)) then IntKind.wrap IntKind.i64 (Int.ofNat (ByteArray.size x0) + Int.ofNat 1) else IntKind.wrap IntKind.i64 (r.1 + Int.ofNat 1)) && decide ((Int.ofNat 16 * bif decide (IntKind.wrap IntKind.i64 (Int.ofNat (ByteArray.size x0) + Int.ofNat 1) < IntKind.wrap IntKind.i64 (r.1 + Int.ofNat 1)) then IntKind.wrap IntKind.i64 (Int.ofNat (ByteArray.size x0) + Int.ofNat 1) else IntKind.wrap IntKind.i64 (r.1 + Int.ofNat 1)) ≤ Int.ofNat 281474976710656) && decide ((bif decide (IntKind.wrap IntKind.i64 (Int.ofNat (ByteArray.size x0) + Int.ofNat 1) < IntKind.wrap IntKind.i64 (r.1 + Int.ofNat 1)) then IntKind.wrap IntKind.i64 (Int.ofNat (ByteArray.size x0) + Int.ofNat 1) else IntKind.wrap IntKind.i64 (r.1 + Int.ofNat 1)) ≤ Int.ofNat 9223372036854775807)) then Option.bind (loop B139_0 (x0, x1, x2, IntKind.wrap IntKind.i64 ((bif decide (IntKind.wrap IntKind.i64 (Int.ofNat (ByteArray.size x0) + Int.ofNat 1) < IntKind.wrap IntKind.i64 (r.1 + Int.ofNat 1)) then IntKind.wrap IntKind.i64 (Int.ofNat (ByteArray.size x0) + Int.ofNat 1) else IntKind.wrap IntKind.i64 (r.1 + Int.ofNat 1)) - Int.ofNat 1), Int.ofNat 0, List.replicate (Int.toNat (bif decide (IntKind.wrap IntKind.i64 (Int.ofNat (ByteArray.size x0) + Int.ofNat 1) < IntKind.wrap IntKind.i64 (r.1 + Int.ofNat 1)) then IntKind.wrap IntKind.i64 (Int.ofNat (ByteArray.size x0) + Int.ofNat 1) else IntKind.wrap IntKind.i64 (r.1 + Int.ofNat 1))) (lit []), ())) fun r => bif decide (Int.ofNat 0 ≤ r.2.1) && decide (r.2.1 < Int.ofNat (List.length r.2.2.1)) then Option.bind r.2.2.1[Int.toNat r.2.1]? fun y => bif decide (Int.ofNat 0 ≤ IntKind.wrap IntKind.i64 (r.2.1 + Int.ofNat 1)) && (decide (IntKind.wrap IntKind.i64 (r.2.1 + Int.ofNat 1) ≤ Int.ofNat (List.length (List.set r.2.2.1 (Int.toNat r.2.1) r.1))) && decide (Int.ofNat (List.length (List.set r.2.2.1 (Int.toNat r.2.1) r.1)) ≤ Int.ofNat (List.length (List.set r.2.2.1 (Int.toNat r.2.1) r.1)))) then some (List.drop 0 (List.take (0 + Int.toNat (IntKind.wrap IntKind.i64 (r.2.1 + Int.ofNat 1))) (List.set r.2.2.1 (Int.toNat r.2.1) r.1)), ()) else none else none else none else bif decide (Int.ofNat 0 ≤ bif decide (IntKind.wrap IntKind.i64 (Int.ofNat (ByteArray.size x0) + Int.ofNat 1) < x3) then IntKind.wrap IntKind.i64 (Int.ofNat (ByteArray.size x0) + Int.ofNat 1) else x3) && (decide ((bif decide (IntKind.wrap IntKind.i64 (Int.ofNat (ByteArray.size x0) + Int.ofNat 1) < x3) then IntKind.wrap IntKind.i64 (Int.ofNat (ByteArray.size x0) + Int.ofNat 1) else x3) ≤ bif decide (IntKind.wrap IntKind.i64 (Int.ofNat (ByteArray.size x0) + Int.ofNat 1) < x3) then IntKind.wrap IntKind.i64 (Int.ofNat (ByteArray.size x0) + Int.ofNat 1) else x3) && decide ((Int.ofNat 16 * bif decide (IntKind.wrap IntKind.i64 (Int.ofNat (ByteArray.size x0) + Int.ofNat 1) < x3) then IntKind.wrap IntKind.i64 (Int.ofNat (ByteArray.size x0) + Int.ofNat 1) else x3) ≤ Int.ofNat 281474976710656) && decide ((bif decide (IntKind.wrap IntKind.i64 (Int.ofNat (ByteArray.size x0) + Int.ofNat 1) < x3) then IntKind.wrap IntKind.i64 (Int.ofNat (ByteArray.size x0) + Int.ofNat 1) else x3) ≤ Int.ofNat 9223372036854775807)) then Option.bind (loop B139_0 (x0, x1, x2, IntKind.wrap IntKind.i64 ((bif decide (IntKind.wrap IntKind.i64 (Int.ofNat (ByteArray.size x0) + Int.ofNat 1) < x3) then IntKind.wrap IntKind.i64 (Int.ofNat (ByteArray.size x0) + Int.ofNat 1) else x3) - Int.ofNat 1), Int.ofNat 0, List.replicate (Int.toNat (bif decide (IntKind.wrap IntKind.i64 (Int.ofNat (ByteArray.size x0) + Int.ofNat 1) < x3) then IntKind.wrap IntKind.i64 (Int.ofNat (ByteArray.size x0) + Int.ofNat 1) else x3)) (lit []), ())) fun r => bif decide (Int.ofNat 0 ≤ r.2.1) && decide (r.2.1 < Int.ofNat (List.length r.2.2.1)) then Option.bind r.2.2.1[Int.toNat r.2.1]? fun y => bif decide (Int.ofNat 0 ≤ IntKind.wrap IntKind.i64 (r.2.1 + Int.ofNat 1)) && (decide (IntKind.wrap IntKind.i64 (r.2.1 + Int.ofNat 1) ≤ Int.ofNat (List.length (List.set r.2.2.1 (Int.toNat r.2.1) r.1))) && decide (Int.ofNat (List.length (List.set r.2.2.1 (Int.toNat r.2.1) r.1)) ≤ Int.ofNat (List.length (List.set r.2.2.1 (Int.toNat r.2.1) r.1)))) then some (List.drop 0 (List.take (0 + Int.toNat (IntKind.wrap IntKind.i64 (r.2.1 + Int.ofNat 1))) (List.set r.2.2.1 (Int.toNat r.2.1) r.1)), ()) else none else none else none := by kernel_rfl
theorem F102_eq (x0 x1 : ByteArray) : F102 (x0, x1, ()) =
  Option.bind (F139 (x0, x1, Int.ofNat 0, Int.negSucc 0, ())) fun r => some (r.1, ()) := by kernel_rfl
theorem B149_0_eq (x0 : ByteArray) (x1 x2 : Int) : B149_0 (x0, x1, x2, ()) =
  bif decide (x2 < x1) then bif decide (Int.ofNat 0 ≤ x2) && decide (x2 < Int.ofNat (ByteArray.size x0)) then bif decide (bt x0 x2 < Int.ofNat 48) then some (Sum.inr (Sum.inl (false, ()))) else bif decide (Int.ofNat 0 ≤ x2) && decide (x2 < Int.ofNat (ByteArray.size x0)) then bif decide (bt x0 x2 > Int.ofNat 57) then some (Sum.inr (Sum.inl (false, ()))) else some (Sum.inl (x0, x1, IntKind.wrap IntKind.i64 (x2 + Int.ofNat 1), ())) else none else none else some (Sum.inr (Sum.inr (x0, ()))) := by kernel_rfl
theorem F149_eq (x0 : ByteArray) : F149 (x0, ()) =
  Option.bind (loop B149_0 (x0, Int.ofNat (ByteArray.size x0), Int.ofNat 0, ())) fun r => Sum.elim (fun p => some (p.1, ())) (fun p => some (!bl p.1 == [], ())) r := by kernel_rfl
theorem F171_eq (x0 : ByteArray) : F171 (x0, ()) =
  some (!bl x0 == bl x0, ()) := by kernel_rfl
theorem F150_eq (x0 x1 : ByteArray) : F150 (x0, x1, ()) =
  Option.bind (F171 (x0, ())) fun r => Option.bind (F171 (x1, ())) fun r_1 => bif r.1 then bif r_1.1 then some (Int.ofNat 0, ()) else some (Int.negSucc 0, ()) else bif r_1.1 then some (Int.ofNat 1, ()) else bif Op.bytesLess (bl x0) (bl x1) then some (Int.negSucc 0, ()) else bif !(Op.bytesLess (bl x0) (bl x1) || bl x0 == bl x1) then some (Int.ofNat 1, ()) else some (Int.ofNat 0, ()) := by kernel_rfl
theorem F115_eq (x0 x1 : ByteArray) : F115 (x0, x1, ()) =
  Option.bind (F149 (x0, ())) fun r => Option.bind (F149 (x1, ())) fun r_1 => bif r.1 then bif r_1.1 then Option.bind (F92 (Int.ofNat (ByteArray.size x0), Int.ofNat (ByteArray.size x1), ())) fun r => Option.bind (F150 (x0, x1, ())) fun r_2 => Option.bind (F66 ([r.1, r_2.1], ())) fun r => some (r.1, ()) else bif r.1 then some (Int.negSucc 0, ()) else bif r_1.1 then some (Int.ofNat 1, ()) else Option.bind (F150 (x0, x1, ())) fun r => some (r.1, ()) else bif r.1 then some (Int.negSucc 0, ()) else bif r_1.1 then some (Int.ofNat 1, ()) else Option.bind (F150 (x0, x1, ())) fun r => some (r.1, ()) := by kernel_rfl
theorem B114_0_eq (x0 x1 x2 : List ByteArray) (x3 x4 : Int) : B114_0 (x0, x1, x2, x3, x4, ()) =
  bif decide (x4 < x3) then bif decide (Int.ofNat 0 ≤ x4) then Option.bind x2[Int.toNat x4]? fun y => bif decide (x4 ≥ Int.ofNat (List.length x1)) then some (Sum.inr (Sum.inl (Int.ofNat 1, ()))) else bif decide (Int.ofNat 0 ≤ x4) then Option.bind x1[Int.toNat x4]? fun y_1 => Option.bind (F115 (y, y_1, ())) fun r => bif !r.1 == Int.ofNat 0 then some (Sum.inr (Sum.inl (r.1, ()))) else some (Sum.inl (x0, x1, x2, x3, IntKind.wrap IntKind.i64 (x4 + Int.ofNat 1), ())) else none else none else some (Sum.inr (Sum.inr (x0, x1, ()))) := by kernel_rfl
theorem F114_eq (x0 x1 : List ByteArray) : F114 (x0, x1, ()) =
  Option.bind (loop B114_0 (x0, x1, x0, Int.ofNat (List.length x0), Int.ofNat 0, ())) fun r => Sum.elim (fun p => some (p.1, ())) (fun p => bif decide (Int.ofNat (List.length p.1) < Int.ofNat (List.length p.2.1)) then some (Int.negSucc 0, ()) else some (Int.ofNat 0, ())) r := by kernel_rfl
theorem F93_eq (x0 x1 : ByteArray) : F93 (x0, x1, ()) =
  bif bl x0 == bl x1 then some (Int.ofNat 0, ()) else bif bl x0 == [] then some (Int.ofNat 1, ()) else bif bl x1 == [] then some (Int.negSucc 0, ()) else Option.bind (F102 (x0, (lit [46]), ())) fun r => Option.bind (F102 (x1, (lit [46]), ())) fun r_1 => Option.bind (F114 (r.1, r_1.1, ())) fun r => some (r.1, ()) := by kernel_rfl
theorem F67_eq (x0 x1 x2 : Int) (x3 : ByteArray) (x4 x5 x6 : Int) (x7 : ByteArray) : F67 (x0, x1, x2, x3, x4, x5, x6, x7, ()) =
  Option.bind (F92 (x0, x4, ())) fun r => Option.bind (F92 (x1, x5, ())) fun r_1 => Option.bind (F92 (x2, x6, ())) fun r_2 => Option.bind (F93 (x3, x7, ())) fun r_3 => Option.bind (F66 ([r.1, r_1.1, r_2.1, r_3.1], ())) fun r => some (r.1, ()) := by kernel_rfl
theorem F40_eq (x0 x1 x2 : Int) (x3 : ByteArray) (x4 x5 : Bool) (x6 x7 x8 : Int) (x9 : ByteArray) (x10 x11 : Bool) : F40 (x0, x1, x2, x3, x4, x5, x6, x7, x8, x9, x10, x11, ()) =
  bif x5 then Option.bind (F65 (x5, ())) fun r => Option.bind (F65 (x11, ())) fun r_1 => some (IntKind.wrap IntKind.i64 (r.1 - r_1.1), ()) else bif x11 then Option.bind (F65 (x5, ())) fun r => Option.bind (F65 (x11, ())) fun r_1 => some (IntKind.wrap IntKind.i64 (r.1 - r_1.1), ()) else Option.bind (F67 (x0, x1, x2, x3, x6, x7, x8, x9, ())) fun r => Option.bind (F65 (x4, ())) fun r_1 => Option.bind (F65 (x10, ())) fun r_2 => Option.bind (F66 ([r.1, IntKind.wrap IntKind.i64 (r_1.1 - r_2.1)], ())) fun r => some (r.1, ()) := by kernel_rfl
theorem F69_eq (x0 x1 x2 : Int) (x3 : ByteArray) (x4 x5 : Bool) (x6 x7 x8 : Int) (x9 : ByteArray) (x10 x11 : Bool) : F69 (x0, x1, x2, x3, x4, x5, x6, x7, x8, x9, x10, x11, ()) =
  Option.bind (F40 (x0, x1, x2, x3, x4, x5, x6, x7, x8, x9, x10, x11, ())) fun r => some (decide (r.1 ≥ Int.ofNat 0), ()) := by kernel_rfl
theorem B74_0_eq (x0 x1 : Int) (x2 : List R8) : B74_0 (x0, x1, x2, ()) =
  bif decide (x1 < x0) then bif decide (Int.ofNat 0 ≤ x1) && decide (x1 < Int.ofNat (List.length x2)) then Option.bind x2[Int.toNat x1]? fun y => Option.bind (F69 (y.1, y.2.1, y.2.2.1, y.2.2.2.1, y.2.2.2.2.1, y.2.2.2.2.2.1, y.2.2.2.2.2.2.1, y.2.2.2.2.2.2.2.1, y.2.2.2.2.2.2.2.2.1, y.2.2.2.2.2.2.2.2.2.1, y.2.2.2.2.2.2.2.2.2.2.1, y.2.2.2.2.2.2.2.2.2.2.2.1, ())) fun r => bif r.1 then some (Sum.inr (Sum.inl (x1, x2, ()))) else some (Sum.inl (x0, IntKind.wrap IntKind.i64 (x1 + Int.ofNat 1), x2, ())) else none else some (Sum.inr (Sum.inr (x2, ()))) := by kernel_rfl
theorem F74_eq (x0 : List R8) : F74 (x0, ()) =
  Option.bind (loop B74_0 (Int.ofNat (List.length x0), Int.ofNat 0, x0, ())) fun r => Sum.elim (fun p => some (p.1, p.2.1, ())) (fun p => some (Int.negSucc 0, p.1, ())) r := by kernel_rfl
theorem B68_0_eq (x0 x1 : Int) (x2 : List R8) : B68_0 (x0, x1, x2, ()) =
  bif decide (x1 < Int.ofNat (List.length x2)) then bif decide (Int.ofNat 0 ≤ x1) && decide (x1 < Int.ofNat (List.length x2)) then Option.bind x2[Int.toNat x1]? fun y => Option.bind (F69 (y.1, y.2.1, y.2.2.1, y.2.2.2.1, y.2.2.2.2.1, y.2.2.2.2.2.1, y.2.2.2.2.2.2.1, y.2.2.2.2.2.2.2.1, y.2.2.2.2.2.2.2.2.1, y.2.2.2.2.2.2.2.2.2.1, y.2.2.2.2.2.2.2.2.2.2.1, y.2.2.2.2.2.2.2.2.2.2.2.1, ())) fun r => bif !r.1 then bif decide (Int.ofNat 0 ≤ x0) && decide (x0 < Int.ofNat (List.length x2)) then Option.bind x2[Int.toNat x0]? fun y_1 => some (Sum.inl (IntKind.wrap IntKind.i64 (x0 + Int.ofNat 1), IntKind.wrap IntKind.i64 (x1 + Int.ofNat 1), List.set x2 (Int.toNat x0) (y.1, y.2.1, y.2.2.1, y.2.2.2.1, y.2.2.2.2.1, y.2.2.2.2.2.1, y.2.2.2.2.2.2.1, y.2.2.2.2.2.2.2.1, y.2.2.2.2.2.2.2.2.1, y.2.2.2.2.2.2.2.2.2.1, y.2.2.2.2.2.2.2.2.2.2.1, y.2.2.2.2.2.2.2.2.2.2.2.1, ()), ())) else none else some (Sum.inl (x0, IntKind.wrap IntKind.i64 (x1 + Int.ofNat 1), x2, ())) else none else some (Sum.inr (x0, x2, ())) := by kernel_rfl
theorem F68_eq (x0 : List R8) : F68 (x0, ()) =
  Option.bind (F74 (x0, ())) fun r => bif r.1 == Int.negSucc 0 then some (0, List.length r.2.1, r.2.1, ()) else Option.bind (loop B68_0 (r.1, IntKind.wrap IntKind.i64 (r.1 + Int.ofNat 1), r.2.1, ())) fun r => bif decide (Int.ofNat 0 ≤ r.1) && (decide (r.1 ≤ Int.ofNat (List.length r.2.1)) && (decide (Int.ofNat (List.length r.2.1) ≤ Int.ofNat (List.length r.2.1)) && decide (Int.ofNat (List.length r.2.1) ≤ Int.ofNat (List.length r.2.1)))) then bif decide (Int.ofNat 0 ≤ r.1) && (decide (r.1 ≤ Int.ofNat (List.length (List.take (0 + Int.toNat r.1) r.2.1 ++ List.replicate (0 + Int.toNat (Int.ofNat (List.length r.2.1)) - (0 + Int.toNat r.1)) (Int.ofNat 0, Int.ofNat 0, Int.ofNat 0, (lit []), false, false, Int.ofNat 0, Int.ofNat 0, Int.ofNat 0, (lit []), false, false, ()) ++ List.drop (0 + Int.toNat r.1 + (0 + Int.toNat (Int.ofNat (List.length r.2.1)) - (0 + Int.toNat r.1))) r.2.1))) && decide (Int.ofNat (List.length (List.take (0 + Int.toNat r.1) r.2.1 ++ List.replicate (0 + Int.toNat (Int.ofNat (List.length r.2.1)) - (0 + Int.toNat r.1)) (Int.ofNat 0, Int.ofNat 0, Int.ofNat 0, (lit []), false, false, Int.ofNat 0, Int.ofNat 0, Int.ofNat 0, (lit []), false, false, ()) ++ List.drop (0 + Int.toNat r.1 + (0 + Int.toNat (Int.ofNat (List.length r.2.1)) - (0 + Int.toNat r.1))) r.2.1)) ≤ Int.ofNat (List.length (List.take (0 + Int.toNat r.1) r.2.1 ++ List.replicate (0 + Int.toNat (Int.ofNat (List.length r.2.1)) - (0 + Int.toNat r.1)) (Int.ofNat 0, Int.ofNat 0, Int.ofNat 0, (lit []), false, false, Int.ofNat 0, Int.ofNat 0, Int.ofNat 0, (lit []), false, false, ()) ++ List.drop (0 + Int.toNat r.1 + (0 + Int.toNat (Int.ofNat (List.length r.2.1)) - (0 + Int.toNat r.1))) r.2.1)))) then some (0, 0 + Int.toNat r.1, List.take (0 + Int.toNat r.1) r.2.1 ++ List.replicate (0 + Int.toNat (Int.ofNat (List.length r.2.1)) - (0 + Int.toNat r.1)) (Int.ofNat 0, Int.ofNat 0, Int.ofNat 0, (lit []), false, false, Int.ofNat 0, Int.ofNat 0, Int.ofNat 0, (lit []), false, false, ()) ++ List.drop (0 + Int.toNat r.1 + (0 + Int.toNat (Int.ofNat (List.length r.2.1)) - (0 + Int.toNat r.1))) r.2.1, ()) else none else none := by kernel_rfl
theorem F71_eq (x0 x1 x2 : Int) (x3 : ByteArray) (x4 x5 : Bool) (x6 x7 x8 : Int) (x9 : ByteArray) (x10 x11 : Bool) (x12 x13 x14 : Int) (x15 : ByteArray) (x16 x17 : Bool) (x18 x19 x20 : Int) (x21 : ByteArray) (x22 x23 : Bool) : F71 (x0, x1, x2, x3, x4, x5, x6, x7, x8, x9, x10, x11, x12, x13, x14, x15, x16, x17, x18, x19, x20, x21, x22, x23, ()) =
  Option.bind (F40 (x0, x1, x2, x3, x4, x5, x12, x13, x14, x15, x16, x17, ())) fun r => some (r.1, ()) := by kernel_rfl
theorem F72_eq (x0 : List R7) : F72 (x0, ()) =
  bif decide (Int.ofNat 0 ≤ Int.ofNat (List.length x0)) && (decide (Int.ofNat (List.length x0) ≤ Int.ofNat (List.length x0)) && decide (Int.ofNat (List.length x0) ≤ Int.ofNat (List.length x0))) then some (List.drop 0 (List.take (Int.toNat (Int.ofNat (List.length x0))) x0), ()) else none := by kernel_rfl
theorem B39v1_0_eq (x0 x1 : Int) (x2 : List R7) (x3 : List R8) : B39v1_0 (x0, x1, x2, x3, ()) =
  bif decide (x1 < x0) then bif decide (Int.ofNat 0 ≤ x1) && decide (x1 < Int.ofNat (List.length x2)) then Option.bind x2[Int.toNat x1]? fun y => bif y.2.2.2.2.2.2.2.2.2.2.1 then bif decide (List.length x3 + List.length [(y.1, y.2.1, y.2.2.1, y.2.2.2.1, y.2.2.2.2.2.2.2.2.1, false, Int.ofNat 0, Int.ofNat 0, Int.ofNat 0, (lit []), false, true, ())] ≤ 1466015503701) then some (Sum.inl (x0, IntKind.wrap IntKind.i64 (x1 + Int.ofNat 1), x2, x3 ++ [(y.1, y.2.1, y.2.2.1, y.2.2.2.1, y.2.2.2.2.2.2.2.2.1, false, Int.ofNat 0, Int.ofNat 0, Int.ofNat 0, (lit []), false, true, ())], ())) else none else bif decide (List.length x3 + List.length [(y.1, y.2.1, y.2.2.1, y.2.2.2.1, y.2.2.2.2.2.2.2.2.1, false, y.2.2.2.2.1, y.2.2.2.2.2.1, y.2.2.2.2.2.2.1, y.2.2.2.2.2.2.2.1, y.2.2.2.2.2.2.2.2.2.1, false, ())] ≤ 1466015503701) then some (Sum.inl (x0, IntKind.wrap IntKind.i64 (x1 + Int.ofNat 1), x2, x3 ++ [(y.1, y.2.1, y.2.2.1, y.2.2.2.1, y.2.2.2.2.2.2.2.2.1, false, y.2.2.2.2.1, y.2.2.2.2.2.1, y.2.2.2.2.2.2.1, y.2.2.2.2.2.2.2.1, y.2.2.2.2.2.2.2.2.2.1, false, ())], ())) else none else none else some (Sum.inr (x2, x3, ())) := by kernel_rfl
theorem F39v1_eq (x0 : List R7) : F39v1 (x0, ()) =
  Option.bind (loop B39v1_0 (Int.ofNat (List.length x0), Int.ofNat 0, x0, [], ())) fun r => some (r.1, r.2.1, ()) := by kernel_rfl
theorem F73_eq (x0 : Int) : F73 (x0, ()) =
  bif decide (x0 < Int.ofNat 0) then none else bif decide (IntKind.wrap IntKind.i64 (x0 - Int.ofNat 0) > Int.ofNat 0) then bif decide (Int.ofNat 0 < IntKind.wrap IntKind.i64 (x0 - Int.ofNat 0)) && decide (IntKind.wrap IntKind.i64 (x0 - Int.ofNat 0) ≤ Int.ofNat 1599289640401) then bif decide (Int.ofNat 0 ≤ Int.ofNat (List.length (List.replicate (Int.toNat (IntKind.wrap IntKind.i64 (x0 - Int.ofNat 0))) (Int.ofNat 0, Int.ofNat 0, Int.ofNat 0, (lit []), Int.ofNat 0, Int.ofNat 0, Int.ofNat 0, (lit []), false, false, false, ())))) then some (List.take 0 (List.replicate (Int.toNat (IntKind.wrap IntKind.i64 (x0 - Int.ofNat 0))) (Int.ofNat 0, Int.ofNat 0, Int.ofNat 0, (lit []), Int.ofNat 0, Int.ofNat 0, Int.ofNat 0, (lit []), false, false, false, ())), ()) else none else none else some ([], ()) := by kernel_rfl
theorem B42_0_eq (x0 : List (List R7)) (x1 : Int) (x2 : List (List R7)) (x3 x4 : Int) : B42_0 (x0, x1, x2, x3, x4, ()) =
  bif decide (x4 < x3) then bif decide (Int.ofNat 0 ≤ x4) then Option.bind x2[Int.toNat x4]? fun y => bif decide (IntKind.wrap IntKind.i64 (x1 + Int.ofNat (List.length y)) < Int.ofNat 0) then none else some (Sum.inl (x0, IntKind.wrap IntKind.i64 (x1 + Int.ofNat (List.length y)), x2, x3, IntKind.wrap IntKind.i64 (x4 + Int.ofNat 1), ())) else none else some (Sum.inr (x0, x1, ())) := by kernel_rfl
theorem B42_1_eq (x0 : List (List R7)) (x1 x2 : Int) (x3 : List R7) : B42_1 (x0, x1, x2, x3, ()) =
  bif decide (x2 < x1) then bif decide (Int.ofNat 0 ≤ x2) then Option.bind x0[Int.toNat x2]? fun y => bif decide (List.length x3 + List.length y ≤ 1599289640401) then some (Sum.inl (x0, x1, IntKind.wrap IntKind.i64 (x2 + Int.ofNat 1), x3 ++ y, ())) else none else none else some (Sum.inr (x3, ())) := by kernel_rfl
theorem F42_eq (x0 : List (List R7)) : F42 (x0, ()) =
  Option.bind (loop B42_0 (x0, Int.ofNat 0, x0, Int.ofNat (List.length x0), Int.ofNat 0, ())) fun r => Option.bind (F73 (r.2.1, ())) fun r_1 => Option.bind (loop B42_1 (r.1, Int.ofNat (List.length r.1), Int.ofNat 0, r_1.1, ())) fun r => some (r.1, ()) := by kernel_rfl
theorem F43_eq  : F43 (()) =
  some (Int.ofNat 0, Int.ofNat 0, Int.ofNat 0, (lit [48]), ()) := by kernel_rfl
theorem F50_eq (x0 : ByteArray) : F50 (x0, ()) =
  some (x0, Int.ofNat 0, ()) := by kernel_rfl
theorem F77_eq  : F77 (()) =
  Option.bind (F43 ()) fun r => some ([(r.1, r.2.1, r.2.2.1, r.2.2.2.1, Int.ofNat 0, Int.ofNat 0, Int.ofNat 0, (lit []), false, false, true, ())], ()) := by kernel_rfl
theorem F106_eq (x0 x1 : ByteArray) : F106 (x0, x1, ()) =
  bif decide (Int.ofNat (ByteArray.size x0) ≥ Int.ofNat (ByteArray.size x1)) then bif decide (Int.ofNat 0 ≤ Int.ofNat (ByteArray.size x1)) && decide (Int.ofNat (ByteArray.size x1) ≤ Int.ofNat (ByteArray.size x0)) then some (bl (ByteArray.extract x0 0 (Int.toNat (Int.ofNat (ByteArray.size x1)))) == bl x1, ()) else none else some (false, ()) := by kernel_rfl
theorem F82_eq (x0 x1 : ByteArray) : F82 (x0, x1, ()) =
  Option.bind (F106 (x0, x1, ())) fun r => some (r.1, ()) := by kernel_rfl
theorem F52_eq (x0 x1 : ByteArray) (x2 : Int) : F52 (x0, x1, x2, ()) =
  bif decide (Int.ofNat 0 ≤ x2) && (decide (x2 ≤ Int.ofNat (ByteArray.size x1)) && decide (Int.ofNat (ByteArray.size x1) ≤ Int.ofNat (ByteArray.size x1))) then Option.bind (F82 (ByteArray.extract x1 (Int.toNat x2) (Int.toNat (Int.ofNat (ByteArray.size x1))), x0, ())) fun r => bif !r.1 then some (false, x1, x2, ()) else some (true, x1, IntKind.wrap IntKind.i64 (x2 + Int.ofNat (ByteArray.size x0)), ()) else none := by kernel_rfl
theorem F140_eq (x0 : ByteArray) : F140 (x0, ()) =
  bif Int.ofNat (ByteArray.size x0) == Int.ofNat 0 then some ((lit []), ()) else bif decide (Int.ofNat 0 ≤ Int.ofNat (ByteArray.size x0)) && (decide (Int.ofNat (ByteArray.size x0) ≤ Int.ofNat (ByteArray.size x0)) && decide (Int.ofNat 1 * Int.ofNat (ByteArray.size x0) ≤ Int.ofNat 281474976710656) && decide (Int.ofNat (ByteArray.size x0) ≤ Int.ofNat 9223372036854775807)) then bif decide (ByteArray.size x0 ≤ List.length (List.replicate (Int.toNat (Int.ofNat (ByteArray.size x0))) (Int.ofNat 0))) then bif decide (Int.ofNat 0 < Int.ofNat (List.length (List.map (fun b => Int.ofNat b.1.1.1) (bl x0) ++ List.drop (ByteArray.size x0) (List.replicate (Int.toNat (Int.ofNat (ByteArray.size x0))) (Int.ofNat 0))))) then bif Int.ofNat (List.length (List.map (fun b => Int.ofNat b.1.1.1) (bl x0) ++ List.drop (ByteArray.size x0) (List.replicate (Int.toNat (Int.ofNat (ByteArray.size x0))) (Int.ofNat 0)))) == Int.ofNat (List.length (List.map (fun b => Int.ofNat b.1.1.1) (bl x0) ++ List.drop (ByteArray.size x0) (List.replicate (Int.toNat (Int.ofNat (ByteArray.size x0))) (Int.ofNat 0)))) && okBytes (List.map (fun b => Int.ofNat b.1.1.1) (bl x0) ++ List.drop (ByteArray.size x0) (List.replicate (Int.toNat (Int.ofNat (ByteArray.size x0))) (Int.ofNat 0))) then some (bstr (List.map (fun b => Int.ofNat b.1.1.1) (bl x0) ++ List.drop (ByteArray.size x0) (List.replicate (Int.toNat (Int.ofNat (ByteArray.size x0))) (Int.ofNat 0))), ()) else none else none else none else none := by kernel_rfl
theorem F104_eq (x0 : ByteArray) : F104 (x0, ()) =
  Option.bind (F140 (x0, ())) fun r => some (r.1, ()) := by kernel_rfl
theorem F133_eq (x0 : ByteArray) (x1 : Int) : F133 (x0, x1, ()) =
  Option.bind (F161 (x0, x1, ())) fun r => some (r.1, ()) := by kernel_rfl
theorem F156_eq (x0 : ByteArray) (x1 : Int) : F156 (x0, x1, ()) =
  bif decide (x1 ≥ Int.ofNat (ByteArray.size x0)) then some (Int.ofNat 0, false, x0, x1, ()) else bif decide (Int.ofNat 0 ≤ x1) && decide (x1 < Int.ofNat (ByteArray.size x0)) then some (bt x0 x1, true, x0, x1, ()) else none := by kernel_rfl
theorem B126_0_eq (x0 : ByteArray) (x1 x2 : Int) (x3 : Bool) (x4 : ByteArray) (x5 : Int) : B126_0 (x0, x1, x2, x3, x4, x5, ()) =
  bif x3 then Option.bind (F133 (x0, x2, ())) fun r => bif decide (r.1 ≥ Int.ofNat 0) then Option.bind (F156 (x4, IntKind.wrap IntKind.i64 (x5 + Int.ofNat 1), ())) fun r => some (Sum.inl (x0, x1, r.1, r.2.1, r.2.2.1, r.2.2.2.1, ())) else some (Sum.inr (x1, x4, x5, ())) else some (Sum.inr (x1, x4, x5, ())) := by kernel_rfl
theorem F126_eq (x0 x1 : ByteArray) (x2 : Int) : F126 (x0, x1, x2, ()) =
  Option.bind (F156 (x1, x2, ())) fun r => Option.bind (loop B126_0 (x0, x2, r.1, r.2.1, r.2.2.1, r.2.2.2.1, ())) fun r => bif decide (Int.ofNat 0 ≤ r.1) && (decide (r.1 ≤ r.2.2.1) && decide (r.2.2.1 ≤ Int.ofNat (ByteArray.size r.2.1))) then Option.bind (F104 (ByteArray.extract r.2.1 (Int.toNat r.1) (Int.toNat r.2.2.1), ())) fun r_1 => some (r_1.1, r.2.1, r.2.2.1, ()) else none := by kernel_rfl
theorem F96_eq (x0 x1 : ByteArray) (x2 : Int) (x3 : ByteArray) (x4 : Int) : F96 (x0, x1, x2, x3, x4, ()) =
  Option.bind (F126 ((lit [32]), x3, x4, ())) fun r => some (x0, x1, x2, r.2.1, r.2.2.1, ()) := by kernel_rfl
theorem F78_eq (x0 x1 : ByteArray) (x2 : Int) (x3 : ByteArray) (x4 : Int) : F78 (x0, x1, x2, x3, x4, ()) =
  Option.bind (F96 (x0, x1, x2, x3, x4, ())) fun r => bif decide (Int.ofNat 0 ≤ r.2.2.2.2.1) && (decide (r.2.2.2.2.1 ≤ Int.ofNat (ByteArray.size r.1)) && decide (Int.ofNat (ByteArray.size r.1) ≤ Int.ofNat (ByteArray.size r.1))) then Option.bind (FIndexAny (ByteArray.extract r.1 (Int.toNat r.2.2.2.2.1) (Int.toNat (Int.ofNat (ByteArray.size r.1))), (lit [32, 124]), ())) fun r_1 => bif decide (r_1.1 < Int.ofNat 0) then bif decide (Int.ofNat 0 ≤ r.2.2.2.2.1) && (decide (r.2.2.2.2.1 ≤ IntKind.wrap IntKind.i64 (r.2.2.2.2.1 + IntKind.wrap IntKind.i64 (Int.ofNat (ByteArray.size r.1) - r.2.2.2.2.1))) && decide (IntKind.wrap IntKind.i64 (r.2.2.2.2.1 + IntKind.wrap IntKind.i64 (Int.ofNat (ByteArray.size r.1) - r.2.2.2.2.1)) ≤ Int.ofNat (ByteArray.size r.1))) then Option.bind (F52 (ByteArray.extract r.1 (Int.toNat r.2.2.2.2.1) (Int.toNat (IntKind.wrap IntKind.i64 (r.2.2.2.2.1 + IntKind.wrap IntKind.i64 (Int.ofNat (ByteArray.size r.1) - r.2.2.2.2.1)))), r.2.2.2.1, r.2.2.2.2.1, ())) fun r_2 => bif r_2.1 then some (decide (IntKind.wrap IntKind.i64 (Int.ofNat (ByteArray.size r.1) - r.2.2.2.2.1) > Int.ofNat 0), r.1, ByteArray.extract r.1 (Int.toNat r.2.2.2.2.1) (Int.toNat (IntKind.wrap IntKind.i64 (r.2.2.2.2.1 + IntKind.wrap IntKind.i64 (Int.ofNat (ByteArray.size r.1) - r.2.2.2.2.1)))), r.2.2.2.2.1, r_2.2.1, r_2.2.2.1, ()) else some (false, r.1, ByteArray.extract r.1 (Int.toNat r.2.2.2.2.1) (Int.toNat (IntKind.wrap IntKind.i64 (r.2.2.2.2.1 + IntKind.wrap IntKind.i64 (Int.ofNat (ByteArray.size r.1) - r.2.2.2.2.1)))), r.2.2.2.2.1, r_2.2.1, r_2.2.2.1, ()) else none else bif decide (Int.ofNat 0 ≤ r.2.2.2.2.1) && (decide (r.2.2.2.2.1 ≤ IntKind.wrap IntKind.i64 (r.2.2.2.2.1 + r_1.1)) && decide (IntKind.wrap IntKind.i64 (r.2.2.2.2.1 + r_1.1) ≤ Int.ofNat (ByteArray.size r.1))) then Option.bind (F52 (ByteArray.extract r.1 (Int.toNat r.2.2.2.2.1) (Int.toNat (IntKind.wrap IntKind.i64 (r.2.2.2.2.1 + r_1.1))), r.2.2.2.1, r.2.2.2.2.1, ())) fun r_2 => bif r_2.1 then some (decide (r_1.1 > Int.ofNat 0), r.1, ByteArray.extract r.1 (Int.toNat r.2.2.2.2.1) (Int.toNat (IntKind.wrap IntKind.i64 (r.2.2.2.2.1 + r_1.1))), r.2.2.2.2.1, r_2.2.1, r_2.2.2.1, ()) else some (false, r.1, ByteArray.extract r.1 (Int.toNat r.2.2.2.2.1) (Int.toNat (IntKind.wrap IntKind.i64 (r.2.2.2.2.1 + r_1.1))), r.2.2.2.2.1, r_2.2.1, r_2.2.2.1, ()) else none else none := by kernel_rfl
theorem F137_eq (x0 x1 : ByteArray) : F137 (x0, x1, ()) =
  Option.bind (F106 (x0, x1, ())) fun r => bif !r.1 then some (x0, false, ()) else bif decide (Int.ofNat 0 ≤ Int.ofNat (ByteArray.size x1)) && (decide (Int.ofNat (ByteArray.size x1) ≤ Int.ofNat (ByteArray.size x0)) && decide (Int.ofNat (ByteArray.size x0) ≤ Int.ofNat (ByteArray.size x0))) then some (ByteArray.extract x0 (Int.toNat (Int.ofNat (ByteArray.size x1))) (Int.toNat (Int.ofNat (ByteArray.size x0))), true, ()) else none := by kernel_rfl
theorem F100_eq (x0 x1 : ByteArray) : F100 (x0, x1, ()) =
  Option.bind (F137 (x0, x1, ())) fun r => some (r.1, r.2.1, ()) := by kernel_rfl
theorem B103_0_eq (x0 : ByteArray) (x1 x2 x3 : Int) : B103_0 (x0, x1, x2, x3, ()) =
  bif decide (x3 < x2) then bif decide (Int.ofNat 0 ≤ x3) && decide (x3 < Int.ofNat (ByteArray.size x0)) then bif decide (bt x0 x3 < Int.ofNat 48) then some (Sum.inr (Sum.inl (Int.ofNat 0, false, ()))) else bif decide (Int.ofNat 0 ≤ x3) && decide (x3 < Int.ofNat (ByteArray.size x0)) then bif decide (bt x0 x3 > Int.ofNat 57) then some (Sum.inr (Sum.inl (Int.ofNat 0, false, ()))) else bif decide (Int.ofNat 0 ≤ x3) && decide (x3 < Int.ofNat (ByteArray.size x0)) then some (Sum.inl (x0, IntKind.wrap IntKind.i64 (IntKind.wrap IntKind.i64 (Int.ofNat 10 * x1) + IntKind.wrap IntKind.i64 (IntKind.wrap IntKind.u8 (bt x0 x3 - Int.ofNat 48))), x2, IntKind.wrap IntKind.i64 (x3 + Int.ofNat 1), ())) else none else none else none else some (Sum.inr (Sum.inr (x1, ()))) := by kernel_rfl
theorem F103_eq (x0 : ByteArray) : F103 (x0, ()) =
  bif decide (Int.ofNat (ByteArray.size x0) < Int.ofNat 1) then some (Int.ofNat 0, false, ()) else bif decide (Int.ofNat (ByteArray.size x0) > Int.ofNat 9) then some (Int.ofNat 0, false, ()) else bif decide (Int.ofNat (ByteArray.size x0) > Int.ofNat 1) then bif decide (Int.ofNat 0 < Int.ofNat (ByteArray.size x0)) then bif bt x0 (Int.ofNat 0) == Int.ofNat 48 then some (Int.ofNat 0, false, ()) else Option.bind (loop B103_0 (x0, Int.ofNat 0, Int.ofNat (ByteArray.size x0), Int.ofNat 0, ())) fun r => Sum.elim (fun p => some (p.1, p.2.1, ())) (fun p => some (p.1, true, ())) r else none else Option.bind (loop B103_0 (x0, Int.ofNat 0, Int.ofNat (ByteArray.size x0), Int.ofNat 0, ())) fun r => Sum.elim (fun p => some (p.1, p.2.1, ())) (fun p => some (p.1, true, ())) r := by kernel_rfl
theorem F173_eq (x0 x1 : ByteArray) : F173 (x0, x1, ()) =
  bif decide (Int.ofNat (ByteArray.size x0) ≥ Int.ofNat (ByteArray.size x1)) then bif decide (Int.ofNat 0 ≤ IntKind.wrap IntKind.i64 (Int.ofNat (ByteArray.size x0) - Int.ofNat (ByteArray.size x1))) && (decide (IntKind.wrap IntKind.i64 (Int.ofNat (ByteArray.size x0) - Int.ofNat (ByteArray.size x1)) ≤ Int.ofNat (ByteArray.size x0)) && decide (Int.ofNat (ByteArray.size x0) ≤ Int.ofNat (ByteArray.size x0))) then some (bl (ByteArray.extract x0 (Int.toNat (IntKind.wrap IntKind.i64 (Int.ofNat (ByteArray.size x0) - Int.ofNat (ByteArray.size x1)))) (Int.toNat (Int.ofNat (ByteArray.size x0)))) == bl x1, ()) else none else some (false, ()) := by kernel_rfl
theorem F160_eq (x0 x1 : ByteArray) : F160 (x0, x1, ()) =
  Option.bind (F173 (x0, x1, ())) fun r => bif !r.1 then some (x0, false, ()) else bif decide (Int.ofNat 0 ≤ IntKind.wrap IntKind.i64 (Int.ofNat (ByteArray.size x0) - Int.ofNat (ByteArray.size x1))) && decide (IntKind.wrap IntKind.i64 (Int.ofNat (ByteArray.size x0) - Int.ofNat (ByteArray.size x1)) ≤ Int.ofNat (ByteArray.size x0)) then some (ByteArray.extract x0 0 (Int.toNat (IntKind.wrap IntKind.i64 (Int.ofNat (ByteArray.size x0) - Int.ofNat (ByteArray.size x1)))), true, ()) else none := by kernel_rfl
theorem F131_eq (x0 x1 : ByteArray) : F131 (x0, x1, ()) =
  Option.bind (F160 (x0, x1, ())) fun r => some (r.1, r.2.1, ()) := by kernel_rfl
theorem B132_0_eq (x0 x1 x2 x3 x4 : Int) (x5 : ByteArray) (x6 x7 : Bool) (x8 x9 x10 : Int) : B132_0 (x0, x1, x2, x3, x4, x5, x6, x7, x8, x9, x10, ()) =
  bif decide (x1 < Int.ofNat 3) then bif x1 == Int.ofNat 0 then some (Sum.inl (x0, IntKind.wrap IntKind.i64 (x1 + Int.ofNat 1), x2, x3, x4, x5, x6, x7, Int.ofNat 0, x9, x10, ())) else bif x1 == Int.ofNat 1 then some (Sum.inl (x0, IntKind.wrap IntKind.i64 (x1 + Int.ofNat 1), x2, x3, x4, x5, x6, x7, x8, Int.ofNat 0, x10, ())) else bif x1 == Int.ofNat 2 then some (Sum.inl (x0, IntKind.wrap IntKind.i64 (x1 + Int.ofNat 1), x2, x3, x4, x5, x6, x7, x8, x9, Int.ofNat 0, ())) else none else some (Sum.inr (x0, x2, x3, x4, x5, x6, x7, x8, x9, x10, ())) := by kernel_rfl
theorem B132_1_eq (x0 x1 x2 x3 : Int) (x4 : ByteArray) (x5 x6 : Bool) (x7 x8 x9 : Int) : B132_1 (x0, x1, x2, x3, x4, x5, x6, x7, x8, x9, ()) =
  bif decide (x0 ≥ Int.ofNat 0) then bif x0 == Int.ofNat 0 then bif decide (x7 < Int.ofNat 999999) then bif x0 == Int.ofNat 0 then bif x0 == Int.ofNat 0 then some (Sum.inr (Sum.inl (IntKind.wrap IntKind.i64 (x7 + Int.ofNat 1), x8, x9, (lit [48]), false, false, ()))) else bif x0 == Int.ofNat 1 then some (Sum.inr (Sum.inl (x7, IntKind.wrap IntKind.i64 (x7 + Int.ofNat 1), x9, (lit [48]), false, false, ()))) else bif x0 == Int.ofNat 2 then some (Sum.inr (Sum.inl (x7, x8, IntKind.wrap IntKind.i64 (x7 + Int.ofNat 1), (lit [48]), false, false, ()))) else none else bif x0 == Int.ofNat 1 then bif x0 == Int.ofNat 0 then some (Sum.inr (Sum.inl (IntKind.wrap IntKind.i64 (x8 + Int.ofNat 1), x8, x9, (lit [48]), false, false, ()))) else bif x0 == Int.ofNat 1 then some (Sum.inr (Sum.inl (x7, IntKind.wrap IntKind.i64 (x8 + Int.ofNat 1), x9, (lit [48]), false, false, ()))) else bif x0 == Int.ofNat 2 then some (Sum.inr (Sum.inl (x7, x8, IntKind.wrap IntKind.i64 (x8 + Int.ofNat 1), (lit [48]), false, false, ()))) else none else bif x0 == Int.ofNat 2 then bif x0 == Int.ofNat 0 then some (Sum.inr (Sum.inl (IntKind.wrap IntKind.i64 (x9 + Int.ofNat 1), x8, x9, (lit [48]), false, false, ()))) else bif x0 == Int.ofNat 1 then some (Sum.inr (Sum.inl (x7, IntKind.wrap IntKind.i64 (x9 + Int.ofNat 1), x9, (lit [48]), false, false, ()))) else bif x0 == Int.ofNat 2 then some (Sum.inr (Sum.inl (x7, x8, IntKind.wrap IntKind.i64 (x9 + Int.ofNat 1), (lit [48]), false, false, ()))) else none else none else bif x0 == Int.ofNat 0 then some (Sum.inl (IntKind.wrap IntKind.i64 (x0 - Int.ofNat 1), x1, x2, x3, x4, x5, x6, Int.ofNat 0, x8, x9, ())) else bif x0 == Int.ofNat 1 then some (Sum.inl (IntKind.wrap IntKind.i64 (x0 - Int.ofNat 1), x1, x2, x3, x4, x5, x6, x7, Int.ofNat 0, x9, ())) else bif x0 == Int.ofNat 2 then some (Sum.inl (IntKind.wrap IntKind.i64 (x0 - Int.ofNat 1), x1, x2, x3, x4, x5, x6, x7, x8, Int.ofNat 0, ())) else none else bif x0 == Int.ofNat 1 then bif decide (x8 < Int.ofNat 999999) then bif x0 == Int.ofNat 0 then bif x0 == Int.ofNat 0 then some (Sum.inr (Sum.inl (IntKind.wrap IntKind.i64 (x7 + Int.ofNat 1), x8, x9, (lit [48]), false, false, ()))) else bif x0 == Int.ofNat 1 then some (Sum.inr (Sum.inl (x7, IntKind.wrap IntKind.i64 (x7 + Int.ofNat 1), x9, (lit [48]), false, false, ()))) else bif x0 == Int.ofNat 2 then some (Sum.inr (Sum.inl (x7, x8, IntKind.wrap IntKind.i64 (x7 + Int.ofNat 1), (lit [48]), false, false, ()))) else none else bif x0 == Int.ofNat 1 then bif x0 == Int.ofNat 0 then some (Sum.inr (Sum.inl (IntKind.wrap IntKind.i64 (x8 + Int.ofNat 1), x8, x9, (lit [48]), false, false, ()))) else bif x0 == Int.ofNat 1 then some (Sum.inr (Sum.inl (x7, IntKind.wrap IntKind.i64 (x8 + Int.ofNat 1), x9, (lit [48]), false, false, ()))) else bif x0 == Int.ofNat 2 then some (Sum.inr (Sum.inl (x7, x8, IntKind.wrap IntKind.i64 (x8 + Int.ofNat 1), (lit [48]), false, false, ()))) else none else bif x0 == Int.ofNat 2 then bif x0 == Int.ofNat 0 then some (Sum.inr (Sum.inl (IntKind.wrap IntKind.i64 (x9 + Int.ofNat 1), x8, x9, (lit [48]), false, false, ()))) else bif x0 == Int.ofNat 1 then some (Sum.inr (Sum.inl (x7, IntKind.wrap IntKind.i64 (x9 + Int.ofNat 1), x9, (lit [48]), false, false, ()))) else bif x0 == Int.ofNat 2 then some (Sum.inr (Sum.inl (x7, x8, IntKind.wrap IntKind.i64 (x9 + Int.ofNat 1), (lit [48]), false, false, ()))) else none else none else bif x0 == Int.ofNat 0 then some (Sum.inl (IntKind.wrap IntKind.i64 (x0 - Int.ofNat 1), x1, x2, x3, x4, x5, x6, Int.ofNat 0, x8, x9, ())) else bif x0 == Int.ofNat 1 then some (Sum.inl (IntKind.wrap IntKind.i64 (x0 - Int.ofNat 1), x1, x2, x3, x4, x5, x6, x7, Int.ofNat 0, x9, ())) else bif x0 == Int.ofNat 2 then some (Sum.inl (IntKind.wrap IntKind.i64 (x0 - Int.ofNat 1), x1, x2, x3, x4, x5, x6, x7, x8, Int.ofNat 0, ())) else none else bif x0 == Int.ofNat 2 then bif decide (x9 < Int.ofNat 999999) then bif x0 == Int.ofNat 0 then bif x0 == Int.ofNat 0 then some (Sum.inr (Sum.inl (IntKind.wrap IntKind.i64 (x7 + Int.ofNat 1), x8, x9, (lit [48]), false, false, ()))) else bif x0 == Int.ofNat 1 then some (Sum.inr (Sum.inl (x7, IntKind.wrap IntKind.i64 (x7 + Int.ofNat 1), x9, (lit [48]), false, false, ()))) else bif x0 == Int.ofNat 2 then some (Sum.inr (Sum.inl (x7, x8, IntKind.wrap IntKind.i64 (x7 + Int.ofNat 1), (lit [48]), false, false, ()))) else none else bif x0 == Int.ofNat 1 then bif x0 == Int.ofNat 0 then some (Sum.inr (Sum.inl (IntKind.wrap IntKind.i64 (x8 + Int.ofNat 1), x8, x9, (lit [48]), false, false, ()))) else bif x0 == Int.ofNat 1 then some (Sum.inr (Sum.inl (x7, IntKind.wrap IntKind.i64 (x8 + Int.ofNat 1), x9, (lit [48]), false, false, ()))) else bif x0 == Int.ofNat 2 then some (Sum.inr (Sum.inl (x7, x8, IntKind.wrap IntKind.i64 (x8 + Int.ofNat 1), (lit [48]), false, false, ()))) else none else bif x0 == Int.ofNat 2 then bif x0 == Int.ofNat 0 then some (Sum.inr (Sum.inl (IntKind.wrap IntKind.i64 (x9 + Int.ofNat 1), x8, x9, (lit [48]), false, false, ()))) else bif x0 == Int.ofNat 1 then some (Sum.inr (Sum.inl (x7, IntKind.wrap IntKind.i64 (x9 + Int.ofNat 1), x9, (lit [48]), false, false, ()))) else bif x0 == Int.ofNat 2 then some (Sum.inr (Sum.inl (x7, x8, IntKind.wrap IntKind.i64 (x9 + Int.ofNat 1), (lit [48]), false, false, ()))) else none else none else bif x0 == Int.ofNat 0 then some (Sum.inl (IntKind.wrap IntKind.i64 (x0 - Int.ofNat 1), x1, x2, x3, x4, x5, x6, Int.ofNat 0, x8, x9, ())) else bif x0 == Int.ofNat 1 then some (Sum.inl (IntKind.wrap IntKind.i64 (x0 - Int.ofNat 1), x1, x2, x3, x4, x5, x6, x7, Int.ofNat 0, x9, ())) else bif x0 == Int.ofNat 2 then some (Sum.inl (IntKind.wrap IntKind.i64 (x0 - Int.ofNat 1), x1, x2, x3, x4, x5, x6, x7, x8, Int.ofNat 0, ())) else none else none else some (Sum.inr (Sum.inr (x1, x2, x3, x4, x5, x6, ()))) := by kernel_rfl
theorem F132_eq (x0 x1 x2 : Int) (x3 : ByteArray) (x4 : Int) : F132 (x0, x1, x2, x3, x4, ()) =
  Option.bind (loop B132_0 (x4, IntKind.wrap IntKind.i64 (x4 + Int.ofNat 1), Int.ofNat 0, Int.ofNat 0, Int.ofNat 0, (lit []), false, false, x0, x1, x2, ())) fun r => Option.bind (loop B132_1 (r.1, r.2.1, r.2.2.1, r.2.2.2.1, r.2.2.2.2.1, r.2.2.2.2.2.1, r.2.2.2.2.2.2.1, r.2.2.2.2.2.2.2.1, r.2.2.2.2.2.2.2.2.1, r.2.2.2.2.2.2.2.2.2.1, ())) fun r => Sum.elim (fun p => some (p.1, p.2.1, p.2.2.1, p.2.2.2.1, p.2.2.2.2.1, p.2.2.2.2.2.1, ())) (fun p => some (Int.ofNat 0, Int.ofNat 0, Int.ofNat 0, (lit []), false, true, ())) r := by kernel_rfl
theorem F134_eq  : F134 (()) =
  some (Int.ofNat 0, Int.ofNat 0, Int.ofNat 0, (lit []), false, true, ()) := by kernel_rfl
theorem F135_eq  : F135 (()) =
  Option.bind (F43 ()) fun r => some (r.1, r.2.1, r.2.2.1, r.2.2.2.1, false, false, ()) := by kernel_rfl
theorem F136_eq (x0 x1 x2 : Int) (x3 : ByteArray) : F136 (x0, x1, x2, x3, ()) =
  bif decide (x0 > Int.ofNat 0) then Option.bind (F132 (x0, x1, x2, x3, Int.ofNat 0, ())) fun r => some (r.1, r.2.1, r.2.2.1, r.2.2.2.1, r.2.2.2.2.1, r.2.2.2.2.2.1, ()) else bif decide (x1 > Int.ofNat 0) then Option.bind (F132 (x0, x1, x2, x3, Int.ofNat 1, ())) fun r => some (r.1, r.2.1, r.2.2.1, r.2.2.2.1, r.2.2.2.2.1, r.2.2.2.2.2.1, ()) else Option.bind (F132 (x0, x1, x2, x3, Int.ofNat 2, ())) fun r => some (r.1, r.2.1, r.2.2.1, r.2.2.2.1, r.2.2.2.2.1, r.2.2.2.2.2.1, ()) := by kernel_rfl
theorem F138_eq (x0 x1 : ByteArray) : F138 (x0, x1, ()) =
  Option.bind (F162 (x0, x1, ())) fun r => bif decide (r.1 ≥ Int.ofNat 0) then bif decide (Int.ofNat 0 ≤ r.1) && decide (r.1 ≤ Int.ofNat (ByteArray.size x0)) then bif decide (Int.ofNat 0 ≤ IntKind.wrap IntKind.i64 (r.1 + Int.ofNat (ByteArray.size x1))) && (decide (IntKind.wrap IntKind.i64 (r.1 + Int.ofNat (ByteArray.size x1)) ≤ Int.ofNat (ByteArray.size x0)) && decide (Int.ofNat (ByteArray.size x0) ≤ Int.ofNat (ByteArray.size x0))) then some (ByteArray.extract x0 0 (Int.toNat r.1), ByteArray.extract x0 (Int.toNat (IntKind.wrap IntKind.i64 (r.1 + Int.ofNat (ByteArray.size x1)))) (Int.toNat (Int.ofNat (ByteArray.size x0))), true, ()) else none else none else some (x0, (lit []), false, ()) := by kernel_rfl
theorem F101_eq (x0 x1 : ByteArray) : F101 (x0, x1, ()) =
  Option.bind (F138 (x0, x1, ())) fun r => some (r.1, r.2.1, r.2.2.1, ()) := by kernel_rfl
theorem F141_eq (x0 : Int) : F141 (x0, ()) =
  bif decide (x0 ≥ Int.ofNat 0) then some (decide (x0 ≤ Int.ofNat 999999), ()) else some (false, ()) := by kernel_rfl
theorem B144_0_eq (x0 : ByteArray) (x1 x2 : Int) : B144_0 (x0, x1, x2, ()) =
  bif decide (x2 < x1) then bif decide (Int.ofNat 0 ≤ x2) && decide (x2 < Int.ofNat (ByteArray.size x0)) then Option.bind (F133 ((lit [97, 98, 99, 100, 101, 102, 103, 104, 105, 106, 107, 108, 109, 110, 111, 112, 113, 114, 115, 116, 117, 118, 119, 120, 121, 122, 65, 66, 67, 68, 69, 70, 71, 72, 73, 74, 75, 76, 77, 78, 79, 80, 81, 82, 83, 84, 85, 86, 87, 88, 89, 90, 48, 49, 50, 51, 52, 53, 54, 55, 56, 57, 45]), bt x0 x2, ())) fun r => bif decide (r.1 < Int.ofNat 0) then some (Sum.inr (Sum.inl (false, ()))) else some (Sum.inl (x0, x1, IntKind.wrap IntKind.i64 (x2 + Int.ofNat 1), ())) else none else some (Sum.inr (Sum.inr (x0, ()))) := by kernel_rfl
theorem F144_eq (x0 : ByteArray) : F144 (x0, ()) =
  Option.bind (loop B144_0 (x0, Int.ofNat (ByteArray.size x0), Int.ofNat 0, ())) fun r => Sum.elim (fun p => some (p.1, ())) (fun p => bif !bl p.1 == [] then bif decide (Int.ofNat (ByteArray.size p.1) > Int.ofNat 1) then bif decide (Int.ofNat 0 < Int.ofNat (ByteArray.size p.1)) then bif bt p.1 (Int.ofNat 0) == Int.ofNat 48 then Option.bind (F149 (p.1, ())) fun r => some (!r.1, ()) else some (true, ()) else none else some (true, ()) else some (false, ())) r := by kernel_rfl
theorem F143_eq (x0 : ByteArray) : F143 (x0, ()) =
  Option.bind (F144 (x0, ())) fun r => some (!r.1, ()) := by kernel_rfl
theorem B166_0_eq (x0 : List ByteArray) (x1 x2 : Int) : B166_0 (x0, x1, x2, ()) =
  bif decide (x2 < x1) then bif decide (Int.ofNat 0 ≤ x2) then Option.bind x0[Int.toNat x2]? fun y => Option.bind (F143 (y, ())) fun r => bif r.1 then some (Sum.inr (Sum.inl (x2, ()))) else some (Sum.inl (x0, x1, IntKind.wrap IntKind.i64 (x2 + Int.ofNat 1), ())) else none else some (Sum.inr (Sum.inr ())) := by kernel_rfl
theorem F166_eq (x0 : List ByteArray) : F166 (x0, ()) =
  Option.bind (loop B166_0 (x0, Int.ofNat (List.length x0), Int.ofNat 0, ())) fun r => Sum.elim (fun p => some (p.1, ())) (fun p => some (Int.negSucc 0, ())) r := by kernel_rfl
theorem F142_eq (x0 : List ByteArray) : F142 (x0, ()) =
  Option.bind (F166 (x0, ())) fun r => some (decide (r.1 ≥ Int.ofNat 0), ()) := by kernel_rfl
theorem F105_eq (x0 x1 x2 : Int) (x3 : ByteArray) : F105 (x0, x1, x2, x3, ()) =
  Option.bind (F141 (x0, ())) fun r => bif !r.1 then some (false, ()) else Option.bind (F141 (x1, ())) fun r => bif !r.1 then some (false, ()) else Option.bind (F141 (x2, ())) fun r => bif !r.1 then some (false, ()) else bif decide (Int.ofNat (ByteArray.size x3) > Int.ofNat 40) then some (false, ()) else bif bl x3 == [] then some (true, ()) else Option.bind (F102 (x3, (lit [46]), ())) fun r => Option.bind (F142 (r.1, ())) fun r => some (!r.1, ()) := by kernel_rfl
theorem B80_0_eq (x0 : ByteArray) (x1 : List ByteArray) (x2 x3 x4 x5 x6 : Int) (x7 : ByteArray) (x8 x9 x10 : Int) (x11 : ByteArray) : B80_0 (x0, x1, x2, x3, x4, x5, x6, x7, x8, x9, x10, x11, ()) =
  bif decide (x3 < x2) then bif x3 == Int.ofNat 0 then bif decide (Int.ofNat 0 ≤ x3) then Option.bind x1[Int.toNat x3]? fun y => Option.bind (F103 (y, ())) fun r => bif !r.2.1 then some (Sum.inr (Sum.inl (false, Int.ofNat 0, Int.ofNat 0, Int.ofNat 0, (lit []), ()))) else some (Sum.inl (x0, x1, x2, IntKind.wrap IntKind.i64 (x3 + Int.ofNat 1), x4, x5, x6, x7, r.1, x9, x10, x11, ())) else none else bif x3 == Int.ofNat 1 then bif decide (Int.ofNat 0 ≤ x3) then Option.bind x1[Int.toNat x3]? fun y => Option.bind (F103 (y, ())) fun r => bif !r.2.1 then some (Sum.inr (Sum.inl (false, Int.ofNat 0, Int.ofNat 0, Int.ofNat 0, (lit []), ()))) else some (Sum.inl (x0, x1, x2, IntKind.wrap IntKind.i64 (x3 + Int.ofNat 1), x4, x5, x6, x7, x8, r.1, x10, x11, ())) else none else bif x3 == Int.ofNat 2 then bif decide (Int.ofNat 0 ≤ x3) then Option.bind x1[Int.toNat x3]? fun y => Option.bind (F103 (y, ())) fun r => bif !r.2.1 then some (Sum.inr (Sum.inl (false, Int.ofNat 0, Int.ofNat 0, Int.ofNat 0, (lit []), ()))) else some (Sum.inl (x0, x1, x2, IntKind.wrap IntKind.i64 (x3 + Int.ofNat 1), x4, x5, x6, x7, x8, x9, r.1, x11, ())) else none else none else some (Sum.inr (Sum.inr (x0, x4, x5, x6, x7, x8, x9, x10, x11, ()))) := by kernel_rfl
theorem F80_eq (x0 : ByteArray) : F80 (x0, ()) =
  Option.bind (F100 (x0, (lit [118]), ())) fun r => Option.bind (F101 (r.1, (lit [45]), ())) fun r_1 => Option.bind (F102 (r_1.1, (lit [46]), ())) fun r_2 => bif !r.2.1 then some (Int.ofNat 0, Int.ofNat 0, Int.ofNat 0, (lit []), false, ()) else bif !Int.ofNat (List.length r_2.1) == Int.ofNat 3 then some (Int.ofNat 0, Int.ofNat 0, Int.ofNat 0, (lit []), false, ()) else bif r_1.2.2.1 then bif bl r_1.2.1 == [] then some (Int.ofNat 0, Int.ofNat 0, Int.ofNat 0, (lit []), false, ()) else Option.bind (loop B80_0 (r_1.2.1, r_2.1, Int.ofNat 3, Int.ofNat 0, Int.ofNat 0, Int.ofNat 0, Int.ofNat 0, (lit []), Int.ofNat 0, Int.ofNat 0, Int.ofNat 0, (lit []), ())) fun r => Sum.elim (fun p => some (p.2.1, p.2.2.1, p.2.2.2.1, p.2.2.2.2.1, p.1, ())) (fun p => Option.bind (F104 (p.1, ())) fun r => Option.bind (F105 (p.2.2.2.2.2.1, p.2.2.2.2.2.2.1, p.2.2.2.2.2.2.2.1, r.1, ())) fun r_3 => bif !r_3.1 then some (Int.ofNat 0, Int.ofNat 0, Int.ofNat 0, (lit []), false, ()) else some (p.2.2.2.2.2.1, p.2.2.2.2.2.2.1, p.2.2.2.2.2.2.2.1, r.1, true, ())) r else Option.bind (loop B80_0 (r_1.2.1, r_2.1, Int.ofNat 3, Int.ofNat 0, Int.ofNat 0, Int.ofNat 0, Int.ofNat 0, (lit []), Int.ofNat 0, Int.ofNat 0, Int.ofNat 0, (lit []), ())) fun r => Sum.elim (fun p => some (p.2.1, p.2.2.1, p.2.2.2.1, p.2.2.2.2.1, p.1, ())) (fun p => Option.bind (F104 (p.1, ())) fun r => Option.bind (F105 (p.2.2.2.2.2.1, p.2.2.2.2.2.2.1, p.2.2.2.2.2.2.2.1, r.1, ())) fun r_3 => bif !r_3.1 then some (Int.ofNat 0, Int.ofNat 0, Int.ofNat 0, (lit []), false, ()) else some (p.2.2.2.2.2.1, p.2.2.2.2.2.2.1, p.2.2.2.2.2.2.2.1, r.1, true, ())) r := by kernel_rfl
theorem F29_eq (x0 x1 : Int) : F29 (x0, x1, ()) =
  bif !decide (x1 = Int.ofNat 0) then bif decide (Int.tmod x0 x1 < Int.ofNat 0) then some (IntKind.wrap IntKind.i64 (Int.tmod x0 x1 + x1), ()) else some (Int.tmod x0 x1, ()) else none := by kernel_rfl
end Go.Vx.Z
/-! strings.Split at a dot; texts held against one another. -/
namespace Go.Vx
open Go
set_option linter.unusedVariables false
theorem xIndexByte_eq (s : ByteArray) (c : Int) : xIndexByte s c = Lib.indexByte (bs s) c.toNat.toUInt8 := Lib.firstIdx_eq s c.toNat.toUInt8
theorem xCount_eq (s : ByteArray) (c : Int) : xCount s c = (((bs s).count c.toNat.toUInt8 : Nat) : Int) := by
  unfold xCount
  rw [Lib.foldl_data, Lib.count_foldl]
  simp [Lib.countByte, bs]
def splitB (c : UInt8) : List UInt8 → List (List UInt8)
  | [] => [[]]
  | x :: l => if x == c then [] :: splitB c l else match splitB c l with
    | [] => [[x]]
    | w :: ws => (x :: w) :: ws
theorem splitB_ne (c : UInt8) : ∀ l, splitB c l ≠ []
  | [] => by simp [splitB]
  | x :: l => by
    unfold splitB
    split
    · simp
    · split <;> simp
theorem index_no {c : UInt8} : ∀ {l : List UInt8}, Lib.indexByte l c = -1 → splitB c l = [l] ∧ l.count c = 0
  | [], _ => ⟨rfl, rfl⟩
  | x :: l, h => by
    unfold Lib.indexByte at h
    split at h
    · cases h
    · rename_i hx
      split at h
      · rename_i hl
        obtain ⟨h1, h2⟩ := index_no (l := l) (by simpa using hl)
        unfold splitB
        rw [if_neg hx, h1]
        exact ⟨rfl, by rw [List.count_cons, h2]; simp [hx]⟩
      · have := Lib.indexByte_ge l c
        rename_i hl
        have hl' : Lib.indexByte l c ≠ -1 := by simpa using hl
        omega
theorem index_yes {c : UInt8} : ∀ {l : List UInt8}, Lib.indexByte l c ≠ -1 → ∃ k : Nat, Lib.indexByte l c = k ∧ k < l.length ∧ splitB c l = l.take k :: splitB c (l.drop (k + 1)) ∧ l.count c = (l.drop (k + 1)).count c + 1
  | [], h => absurd rfl h
  | x :: l, h => by
    unfold Lib.indexByte at h ⊢
    split
    · rename_i hx
      refine ⟨0, rfl, by simp, ?_, ?_⟩
      · conv => lhs; unfold splitB
        rw [if_pos hx]
        simp
      · rw [List.count_cons]; simp [hx]
    · rename_i hx
      rw [if_neg hx] at h
      split
      · rename_i hl; rw [if_pos hl] at h; exact absurd rfl h
      · rename_i hl
        obtain ⟨k, h1, h2, h3, h4⟩ := index_yes (l := l) (c := c) (by simpa using hl)
        refine ⟨k + 1, by rw [h1]; rfl, by simp; omega, ?_, ?_⟩
        · conv => lhs; unfold splitB
          rw [if_neg hx, h3]
          simp
        · rw [List.count_cons, h4]; simp [hx]
theorem splitB_length (c : UInt8) : ∀ l, (splitB c l).length = l.count c + 1
  | [] => rfl
  | x :: l => by
    have ih := splitB_length c l
    unfold splitB
    rw [List.count_cons]
    split
    · rename_i hx; simp [ih, hx]
    · rename_i hx
      have hne := splitB_ne c l
      cases hs : splitB c l with
      | nil => exact absurd hs hne
      | cons w ws => rw [hs] at ih; simp [hx] at ih ⊢; exact ih
namespace Z
def dot : ByteArray := lit [46]
def splitDot (s : ByteArray) : List ByteArray := (splitB 46 (bs s)).map lit
theorem lit_bs (s : ByteArray) : lit (bs s) = s := bs_inj rfl
theorem F165_dot (s : ByteArray) : F165 (s, dot, ()) = some (Lib.indexByte (bs s) 46, ()) := by
  rw [F165_eq, F162_eq]
  have h1 : (Int.ofNat (ByteArray.size dot) == Int.ofNat 0) = false := rfl
  have h2 : (Int.ofNat (ByteArray.size dot) == Int.ofNat 1) = true := rfl
  have h3 : decide (Int.ofNat 0 < Int.ofNat (ByteArray.size dot)) = true := rfl
  rw [h1, h2, h3, F161_eq, xIndexByte_eq]
  simp only [cond_false, cond_true, Option.bind_some]
  cases hd : (bl dot == bl s) with
  | false => rfl
  | true =>
    have : bl dot = bl s := by simpa using hd
    rw [bs_toList, bs_toList] at this
    rw [← this]
    rfl
theorem split_inv (s : ByteArray) (n : Nat) (hn : n ≤ 1099511627776) : ∀ (k : Nat) (r : ByteArray) (a : List ByteArray) (i : Nat), k = (bs r).count 46 → r.size ≤ 1099511627776 → i + k = n → a.length = n + 1 → (a.take i).map bs ++ splitB 46 (bs r) = splitB 46 (bs s) →
    ∃ r' a', loop B139_0 (r, dot, (0 : Int), (n : Int), (i : Int), a, ()) = some (r', (n : Int), a', ()) ∧ a'.length = n + 1 ∧ (a'.take n).map bs ++ [bs r'] = splitB 46 (bs s)
  | 0, r, a, i, hk, hr, hi, ha, hs => by
    obtain rfl : i = n := by omega
    have hno : Lib.indexByte (bs r) 46 = -1 := by
      by_cases h : Lib.indexByte (bs r) 46 = -1
      · exact h
      · obtain ⟨_, _, _, _, h4⟩ := index_yes h
        omega
    refine ⟨r, a, loop_end ?_, ha, by rw [← hs, (index_no hno).1]⟩
    rw [B139_0_eq]
    have : decide ((i : Int) < (i : Int)) = false := by simp
    rw [this]
    rfl
  | k + 1, r, a, i, hk, hr, hi, ha, hs => by
    have hyes : Lib.indexByte (bs r) 46 ≠ -1 := fun h => by
      have := (index_no h).2
      omega
    obtain ⟨m, h1, h2, h3, h4⟩ := index_yes hyes
    have hsz : r.size = (bs r).length := bs_size r
    have hrest : bs (r.extract (m + 1) r.size) = (bs r).drop (m + 1) := by
      rw [bs_extract, hsz, List.take_length]
    obtain ⟨r', a', h5, h6, h7⟩ := split_inv s n hn k (r.extract (m + 1) r.size) (a.set i (r.extract 0 m)) (i + 1) (by rw [hrest]; omega) (by rw [bs_size, hrest, List.length_drop]; omega) (by omega) (by rw [List.length_set]; exact ha) (by
      rw [hrest, ← hs, h3, List.take_set, List.take_succ_eq_append_getElem (by omega), List.set_append]
      have hl : (a.take i).length = i := by rw [List.length_take]; omega
      rw [hl, if_neg (by omega), Nat.sub_self, List.set_cons_zero, List.map_append, List.append_assoc]
      simp [bs_extract])
    refine ⟨r', a', loop_step ?_ h5, h6, h7⟩
    rw [B139_0_eq, F165_dot, h1]
    have e1 : decide ((i : Int) < (n : Int)) = true := by simp; omega
    have e2 : decide ((m : Int) < Int.ofNat 0) = false := by simp
    have e3 : IntKind.wrap IntKind.i64 ((m : Int) + 0) = (m : Int) := by rw [wrap64 (by omega) (by omega)]; omega
    have e4 : (decide (Int.ofNat 0 ≤ (m : Int)) && decide ((m : Int) ≤ Int.ofNat r.size)) = true := by simp; omega
    have e5 : (decide (Int.ofNat 0 ≤ (i : Int)) && decide ((i : Int) < Int.ofNat a.length)) = true := by simp; omega
    have e6 : IntKind.wrap IntKind.i64 ((m : Int) + Int.ofNat (ByteArray.size dot)) = ((m + 1 : Nat) : Int) := by
      have : Int.ofNat (ByteArray.size dot) = 1 := rfl
      rw [this]; exact wrap64s m (by omega)
    have e7 : (decide (Int.ofNat 0 ≤ ((m + 1 : Nat) : Int)) && (decide (((m + 1 : Nat) : Int) ≤ Int.ofNat r.size) && decide (Int.ofNat r.size ≤ Int.ofNat r.size))) = true := by simp; omega
    have e8 : IntKind.wrap IntKind.i64 ((i : Int) + Int.ofNat 1) = ((i + 1 : Nat) : Int) := wrap64s i (by omega)
    have e9 : a[i]? = some (a[i]'(by omega)) := List.getElem?_eq_getElem _
    simp only [e1, e2, e3, e4, e5, e6, e7, e8, cond_true, cond_false, Int.toNat_natCast, Option.bind_some]
    rw [e9]
    rfl
theorem F102_dot (s : ByteArray) (hs : s.size ≤ 1099511627776) : F102 (s, dot, ()) = some (splitDot s, ()) := by
  rw [F102_eq, F139_eq]
  have h1 : (Int.negSucc 0 == Int.ofNat 0) = false := rfl
  have h2 : (bl dot == []) = false := by rw [bs_toList]; rfl
  have h3 : decide (Int.negSucc 0 < Int.ofNat 0) = true := rfl
  have h4 : F164 (s, dot, ()) = some ((((bs s).count 46 : Nat) : Int), ()) := by
    rw [F164_eq]
    have g1 : (Int.ofNat (ByteArray.size dot) == Int.ofNat 0) = false := rfl
    have g2 : (Int.ofNat (ByteArray.size dot) == Int.ofNat 1) = true := rfl
    have g3 : decide (Int.ofNat 0 < Int.ofNat (ByteArray.size dot)) = true := rfl
    rw [g1, g2, g3]
    simp only [cond_false, cond_true]
    rw [xCount_eq]
    rfl
  have hc : (bs s).count 46 ≤ (bs s).length := List.count_le_length
  have hsz := bs_size s
  rw [h1, h2, h3, h4]
  simp only [cond_false, cond_true, Option.bind_some]
  generalize hn : (bs s).count 46 = n
  have e1 : IntKind.wrap IntKind.i64 (Int.ofNat s.size + Int.ofNat 1) = ((s.size + 1 : Nat) : Int) := wrap64s s.size (by omega)
  have e2 : IntKind.wrap IntKind.i64 ((n : Int) + Int.ofNat 1) = ((n + 1 : Nat) : Int) := wrap64s n (by omega)
  have e3 : decide (((s.size + 1 : Nat) : Int) < ((n + 1 : Nat) : Int)) = false := by simp; omega
  rw [e1, e2, e3]
  simp only [cond_false]
  have e4 : (decide (Int.ofNat 0 ≤ ((n + 1 : Nat) : Int)) && (decide (((n + 1 : Nat) : Int) ≤ ((n + 1 : Nat) : Int)) && decide ((Int.ofNat 16 * ((n + 1 : Nat) : Int)) ≤ Int.ofNat 281474976710656) && decide (((n + 1 : Nat) : Int) ≤ Int.ofNat 9223372036854775807))) = true := by
    simp; omega
  have e5 : IntKind.wrap IntKind.i64 (((n + 1 : Nat) : Int) - Int.ofNat 1) = (n : Int) := by rw [show ((n + 1 : Nat) : Int) - Int.ofNat 1 = (n : Int) by simp]; exact wrap64 (by omega) (by omega)
  rw [e4, e5]
  simp only [cond_true, Int.toNat_natCast]
  obtain ⟨r', a', h5, h6, h7⟩ := split_inv s n (by omega) n s (List.replicate (n + 1) (lit [])) 0 hn.symm hs (by omega) (by simp) (by simp)
  have h5' : loop B139_0 (s, dot, Int.ofNat 0, (n : Int), Int.ofNat 0, List.replicate (n + 1) (lit []), ()) = some (r', (n : Int), a', ()) := h5
  rw [h5']
  simp only [Option.bind_some]
  have e6 : (decide (Int.ofNat 0 ≤ (n : Int)) && decide ((n : Int) < Int.ofNat a'.length)) = true := by simp; omega
  have e7 : a'[n]? = some (a'[n]'(by omega)) := List.getElem?_eq_getElem _
  have e8 : (decide (Int.ofNat 0 ≤ ((n + 1 : Nat) : Int)) && (decide (((n + 1 : Nat) : Int) ≤ Int.ofNat (List.length (a'.set n r'))) && decide (Int.ofNat (List.length (a'.set n r')) ≤ Int.ofNat (List.length (a'.set n r'))))) = true := by simp; omega
  simp only [e6, e2, cond_true, Int.toNat_natCast, e8, Nat.zero_add, List.drop_zero]
  rw [e7]
  simp only [Option.bind_some]
  have hl : List.take (n + 1) (a'.set n r') = a'.take n ++ [r'] := by
    rw [List.take_set, List.take_of_length_le (by omega), List.set_eq_take_append_cons_drop, if_pos (by omega), List.drop_of_length_le (by omega)]
  have he : a'.take n ++ [r'] = splitDot s := by
    unfold splitDot
    rw [← h7, List.map_append, List.map_map]
    have : (lit ∘ bs) = id := by funext x; exact lit_bs x
    rw [this, List.map_id]
    simp [lit_bs]
  rw [hl, he]
end Z
end Go.Vx
/-! Orders: whole numbers, bytes, words, versions. -/
namespace Go.Vx
open Go
set_option linter.unusedVariables false
structure Lin {α : Type} (c : α → α → Int) : Prop where
  rng : ∀ x y, c x y = -1 ∨ c x y = 0 ∨ c x y = 1
  eq0 : ∀ x y, c x y = 0 ↔ x = y
  anti : ∀ x y, c y x = - c x y
  trans : ∀ x y z, c x y = -1 → c y z = -1 → c x z = -1
theorem Lin.self {α : Type} {c : α → α → Int} (h : Lin c) (x : α) : c x x = 0 := (h.eq0 x x).2 rfl
theorem Lin.pull {α β : Type} {c : α → α → Int} (h : Lin c) (f : β → α) (hf : ∀ x y, f x = f y → x = y) : Lin fun x y => c (f x) (f y) :=
  ⟨fun x y => h.rng _ _, fun x y => ⟨fun e => hf _ _ ((h.eq0 _ _).1 e), fun e => by rw [e]; exact h.self _⟩, fun x y => h.anti _ _, fun x y z => h.trans _ _ _⟩
def orC (a b : Int) : Int := if a = 0 then b else a
theorem Lin.prod {α β : Type} {c : α → α → Int} {d : β → β → Int} (h : Lin c) (k : Lin d) : Lin fun (x y : α × β) => orC (c x.1 y.1) (d x.2 y.2) := by
  refine ⟨fun x y => ?_, fun x y => ?_, fun x y => ?_, fun x y z => ?_⟩
  · unfold orC; split
    · exact k.rng _ _
    · exact h.rng _ _
  · unfold orC
    split
    · rename_i e
      rw [k.eq0]
      have := (h.eq0 _ _).1 e
      exact ⟨fun e2 => Prod.ext this e2, fun e2 => by rw [e2]⟩
    · rename_i e
      exact ⟨fun e2 => absurd e2 e, fun e2 => absurd ((h.eq0 x.1 y.1).2 (by rw [e2])) e⟩
  · unfold orC
    rw [h.anti x.1 y.1, k.anti x.2 y.2]
    split
    · rename_i e; rw [if_pos (by omega)]
    · rename_i e; rw [if_neg (by omega)]
  · unfold orC
    intro h1 h2
    by_cases e1 : c x.1 y.1 = 0
    · rw [if_pos e1] at h1
      have e1' := (h.eq0 _ _).1 e1
      rw [e1']
      by_cases e2 : c y.1 z.1 = 0
      · rw [if_pos e2] at h2 ⊢
        exact k.trans _ _ _ h1 h2
      · rw [if_neg e2] at h2 ⊢
        exact h2
    · rw [if_neg e1] at h1
      by_cases e2 : c y.1 z.1 = 0
      · have e2' := (h.eq0 _ _).1 e2
        rw [← e2', if_neg e1]
        exact h1
      · rw [if_neg e2] at h2
        have := h.trans _ _ _ h1 h2
        rw [if_neg (by omega)]
        exact this
def listC {α : Type} (c : α → α → Int) : List α → List α → Int
  | [], [] => 0
  | [], _ :: _ => -1
  | _ :: _, [] => 1
  | x :: xs, y :: ys => orC (c x y) (listC c xs ys)
theorem Lin.list {α : Type} {c : α → α → Int} (h : Lin c) : Lin (listC c) := by
  have rng : ∀ x y, listC c x y = -1 ∨ listC c x y = 0 ∨ listC c x y = 1 := by
    intro x
    induction x with
    | nil => intro y; cases y <;> simp [listC]
    | cons a x ih =>
      intro y
      cases y with
      | nil => simp [listC]
      | cons b y =>
        simp only [listC, orC]
        split
        · exact ih y
        · exact h.rng _ _
  have eq0 : ∀ x y, listC c x y = 0 ↔ x = y := by
    intro x
    induction x with
    | nil => intro y; cases y <;> simp [listC]
    | cons a x ih =>
      intro y
      cases y with
      | nil => simp [listC]
      | cons b y =>
        simp only [listC, orC]
        split
        · rename_i e
          rw [ih y, (h.eq0 _ _).1 e]
          simp
        · rename_i e
          refine ⟨fun e2 => absurd e2 e, fun e2 => ?_⟩
          injection e2 with e3 _
          exact absurd ((h.eq0 _ _).2 e3) e
  have anti : ∀ x y, listC c y x = - listC c x y := by
    intro x
    induction x with
    | nil => intro y; cases y <;> simp [listC]
    | cons a x ih =>
      intro y
      cases y with
      | nil => simp [listC]
      | cons b y =>
        simp only [listC, orC]
        rw [h.anti a b, ih y]
        split
        · rename_i e; rw [if_pos (by omega)]
        · rename_i e; rw [if_neg (by omega)]
  refine ⟨rng, eq0, anti, ?_⟩
  intro x
  induction x with
  | nil =>
    intro y z h1 h2
    cases y with
    | nil => simp [listC] at h1
    | cons b y =>
      cases z with
      | nil => simp [listC] at h2
      | cons d z => rfl
  | cons a x ih =>
    intro y z h1 h2
    cases y with
    | nil => simp [listC] at h1
    | cons b y =>
      cases z with
      | nil => simp [listC] at h2
      | cons d z =>
        simp only [listC, orC] at h1 h2 ⊢
        by_cases e1 : c a b = 0
        · rw [if_pos e1] at h1
          rw [(h.eq0 _ _).1 e1]
          by_cases e2 : c b d = 0
          · rw [if_pos e2] at h2 ⊢
            exact ih y z h1 h2
          · rw [if_neg e2] at h2 ⊢
            exact h2
        · rw [if_neg e1] at h1
          by_cases e2 : c b d = 0
          · rw [← (h.eq0 _ _).1 e2, if_neg e1]
            exact h1
          · rw [if_neg e2] at h2
            have := h.trans _ _ _ h1 h2
            rw [if_neg (by omega)]
            exact this
theorem Lin.swo {α : Type} {c : α → α → Int} (h : Lin c) : Sort.SWO fun x y => decide (c x y < 0) := by
  have lt : ∀ x y, c x y < 0 ↔ c x y = -1 := fun x y => by have := h.rng x y; omega
  have tr : ∀ x y z, c x y = 1 → c y z = 1 → c x z = 1 := fun x y z h1 h2 => by
    have := h.trans z y x (by rw [h.anti y z]; omega) (by rw [h.anti x y]; omega)
    rw [h.anti x z] at this; omega
  refine ⟨fun x => by simp [h.self], fun x y z h1 h2 => ?_, fun x y z h1 h2 => ?_⟩
  · simp only [decide_eq_true_eq, lt] at *
    exact h.trans _ _ _ h1 h2
  · simp only [decide_eq_false_iff_not, lt] at *
    intro h3
    have r1 := h.rng x y
    have r2 := h.rng y z
    by_cases e1 : c x y = 0
    · rw [(h.eq0 _ _).1 e1] at h3; exact h2 h3
    · by_cases e2 : c y z = 0
      · rw [← (h.eq0 _ _).1 e2] at h3; exact h1 h3
      · have := tr x y z (by omega) (by omega); omega
/-! ### The orders -/
def cmpI (a b : Int) : Int := if a < b then -1 else if b < a then 1 else 0
theorem lin_cmpI : Lin cmpI := by
  refine ⟨fun x y => ?_, fun x y => ?_, fun x y => ?_, fun x y z => ?_⟩ <;> unfold cmpI
  · split
    · simp
    · split <;> simp
  · split
    · constructor <;> intro h <;> omega
    · split <;> constructor <;> intro h <;> omega
  · split <;> split <;> first | omega | (split <;> omega) | rfl
  · intro h1 h2
    split at h1
    · split at h2
      · rw [if_pos (by omega)]
      · split at h2 <;> omega
    · split at h1 <;> omega
def cmpU (a b : UInt8) : Int := cmpI a.toNat b.toNat
theorem lin_cmpU : Lin cmpU := lin_cmpI.pull (fun a : UInt8 => (a.toNat : Int)) fun x y h => UInt8.toNat_inj.1 (by omega)
abbrev cmpT : List UInt8 → List UInt8 → Int := listC cmpU
theorem lin_cmpT : Lin cmpT := lin_cmpU.list
theorem bytesLess_eq : ∀ a b, Op.bytesLess a b = decide (cmpT a b = -1)
  | [], [] => rfl
  | [], _ :: _ => rfl
  | _ :: _, [] => rfl
  | x :: a, y :: b => by
    unfold Op.bytesLess
    simp only [listC, cmpU, cmpI, orC]
    rw [bytesLess_eq a b]
    by_cases h1 : x < y
    · have := UInt8.lt_iff_toNat_lt.1 h1
      simp [h1, this]
    · have h1' : ¬ x.toNat < y.toNat := fun h => h1 (UInt8.lt_iff_toNat_lt.2 h)
      have h1'' : ¬ ((x.toNat : Int) < (y.toNat : Int)) := by omega
      by_cases h2 : x = y
      · subst h2; simp [h1]
      · have h3 : y.toNat < x.toNat := by
          rcases Nat.lt_or_ge y.toNat x.toNat with h | h
          · exact h
          · exact absurd (UInt8.toNat_inj.1 (by omega)) h2
        have h3' : (y.toNat : Int) < (x.toNat : Int) := by omega
        simp [h1, h2, h1'', h3']
def dig1 (c : UInt8) : Bool := decide (48 ≤ c.toNat) && decide (c.toNat ≤ 57)
def allDig (l : List UInt8) : Bool := l.all dig1 && !l.isEmpty
def wordKey (l : List UInt8) : Int × Int × List UInt8 := if allDig l then (0, (l.length : Int), l) else (1, 0, l)
def cmpW (a b : List UInt8) : Int := (fun (x y : Int × Int × List UInt8) => orC (cmpI x.1 y.1) (orC (cmpI x.2.1 y.2.1) (cmpT x.2.2 y.2.2))) (wordKey a) (wordKey b)
theorem lin_cmpW : Lin cmpW := (lin_cmpI.prod (lin_cmpI.prod lin_cmpT)).pull wordKey fun x y h => by
  unfold wordKey at h
  split at h <;> split at h <;> simp_all
theorem splitB_inj (c : UInt8) : ∀ x y, splitB c x = splitB c y → x = y
  | [], [], _ => rfl
  | [], b :: y, h => by
    have h1 := splitB_length c (b :: y)
    rw [← h] at h1
    unfold splitB at h
    split at h
    · have := splitB_ne c y
      injection h with _ h
      exact absurd h.symm this
    · split at h <;> cases h
  | a :: x, [], h => by
    unfold splitB at h
    split at h
    · have := splitB_ne c x
      injection h with _ h
      exact absurd h this
    · split at h <;> cases h
  | a :: x, b :: y, h => by
    have hx := splitB_ne c x
    have hy := splitB_ne c y
    rw [splitB, splitB] at h
    cases hsx : splitB c x with
    | nil => exact absurd hsx hx
    | cons w ws =>
      cases hsy : splitB c y with
      | nil => exact absurd hsy hy
      | cons v vs =>
        rw [hsx, hsy] at h
        by_cases ha : (a == c) = true
        · by_cases hb : (b == c) = true
          · rw [if_pos ha, if_pos hb] at h
            injection h with _ h
            rw [splitB_inj c x y (by rw [hsx, hsy, h])]
            have := (beq_iff_eq.1 ha).trans (beq_iff_eq.1 hb).symm
            rw [this]
          · rw [if_pos ha, if_neg hb] at h
            cases h
        · by_cases hb : (b == c) = true
          · rw [if_neg ha, if_pos hb] at h
            cases h
          · rw [if_neg ha, if_neg hb] at h
            injection h with h1 h2
            injection h1 with h3 h4
            rw [h3, splitB_inj c x y (by rw [hsx, hsy, h4, h2])]
def preKey (l : List UInt8) : Int × List (List UInt8) := if l = [] then (1, []) else (0, splitB 46 l)
def cmpP (a b : List UInt8) : Int := (fun (x y : Int × List (List UInt8)) => orC (cmpI x.1 y.1) (listC cmpW x.2 y.2)) (preKey a) (preKey b)
theorem lin_cmpP : Lin cmpP := (lin_cmpI.prod lin_cmpW.list).pull preKey fun x y h => by
  unfold preKey at h
  split at h <;> split at h
  · simp_all
  · simp at h
  · simp at h
  · injection h with _ h; exact splitB_inj 46 _ _ h
abbrev Ver := Int × Int × Int × ByteArray × Unit
def verKey (v : Ver) : Int × Int × Int × List UInt8 := (v.1, v.2.1, v.2.2.1, bs v.2.2.2.1)
def cmpV (a b : Ver) : Int := (fun (x y : Int × Int × Int × List UInt8) => orC (cmpI x.1 y.1) (orC (cmpI x.2.1 y.2.1) (orC (cmpI x.2.2.1 y.2.2.1) (cmpP x.2.2.2 y.2.2.2)))) (verKey a) (verKey b)
theorem lin_cmpV : Lin cmpV := (lin_cmpI.prod (lin_cmpI.prod (lin_cmpI.prod lin_cmpP))).pull verKey fun x y h => by
  obtain ⟨a, b, c, d, u⟩ := x
  obtain ⟨a', b', c', d', u'⟩ := y
  simp only [verKey, Prod.mk.injEq] at h
  obtain ⟨h1, h2, h3, h4⟩ := h
  rw [h1, h2, h3, bs_inj h4]
end Go.Vx
/-! slices.SortFunc over an own list, by the shelf's contract, as an entry. -/
namespace Go.Vx
open Go Go.RowKit Go.Proofs Go.Shelf Go.Sort
set_option linter.unusedVariables false
set_option linter.unusedSimpArgs false
def rowShape : Ty → List SAC
  | .unit => []
  | .cons a b => .d a :: rowShape b
  | .int k => [.d (.int k)]
  | .bool => [.d .bool]
  | .str => [.d .str]
  | .list r => [.d (.list r)]
def toP : (r : Ty) → r.D → {X : Type} → X → rowP (rowShape r) X
  | .unit, _, _, y => y
  | .cons _ b, x, _, y => (x.1, toP b x.2 y)
  | .int _, x, _, y => (x, y)
  | .bool, x, _, y => (x, y)
  | .str, x, _, y => (x, y)
  | .list _, x, _, y => (x, y)
theorem em_toP : ∀ (r : Ty) (x : r.D) {X : Type} (y : X), emRow (rowShape r) (toP r x y) = (cellsOf r x, y)
  | .unit, _, _, _ => rfl
  | .cons a b, x, X, y => by
    have h := em_toP b x.2 y
    simp only [rowShape, toP, emRow, emAC, cellsOf, h]
  | .int _, _, _, _ => rfl
  | .bool, _, _, _ => rfl
  | .str, _, _, _ => rfl
  | .list _, _, _, _ => rfl
@[reducible] def shCmp (r : Ty) : Shape := ⟨[(0, .row (rowShape r)), (1, .row (rowShape r))], []⟩
@[reducible] def outI : Shape := ⟨[(0, .one (.d (.int .i64)))], []⟩
@[reducible] def outSort (e : Nat) (r : Ty) : Shape := ⟨[], [(100000, .lst e r false)]⟩
def sortIdx (lt : Nat → Nat → Bool) (n : Nat) : List Nat := (Sort.pdq lt (Array.range n) 0 n (Lib.bitLen n) true true).toList
def sortBy {α : Type} (cf : α → α → Int) : List α → List α
  | [] => []
  | x :: l => (sortIdx (ltOf fun i j => cf ((x :: l).getD i x) ((x :: l).getD j x)) (x :: l).length).map fun i => (x :: l).getD i x
theorem swo_at {α β : Type} {cf : α → α → Int} (h : SWO (ltOf cf)) (f : β → α) : SWO (ltOf fun i j => cf (f i) (f j)) :=
  ⟨fun x => h.irrefl (f x), fun x y z => h.trans (f x) (f y) (f z), fun x y z => h.ntrans (f x) (f y) (f z)⟩
theorem pdq_range {lt : Nat → Nat → Bool} (h : SWO lt) (n : Nat) : (sortIdx lt n).Perm (List.range n) := by
  obtain ⟨⟨h1, _, h2⟩, _⟩ := Sort.pdq_sorts lt h (Array.range n) 0 n (Lib.bitLen n) true true (Nat.zero_le _) (by simp) (Or.inl rfl)
  have gen : ∀ (A : Array Nat), A.size = n → A.extract 0 n = A := by intro A hA; subst hA; exact Array.extract_size
  have e1 := gen (Sort.pdq lt (Array.range n) 0 n (Lib.bitLen n) true true) (by rw [h1]; simp)
  have e2 := gen (Array.range n) (by simp)
  rw [e1, e2, Array.toList_range] at h2
  exact h2
theorem flatK_toList {α : Type} [Inhabited α] (enc : α → List Value) (k : Nat) (hk : ∀ x, (enc x).length = k) (d : Array α) : (flatK enc k d).toList = d.toList.flatMap enc := by
  apply List.ext_getElem
  · rw [Array.length_toList, size_flatK, List.length_flatMap]
    simp [hk, Function.comp_def]
    rw [List.map_const', List.sum_replicate_nat]; simp
  · intro t h1 h2
    rw [Array.length_toList, size_flatK] at h1
    have hk0 : 0 < k := by
      rcases Nat.eq_zero_or_pos k with h | h
      · subst h; simp at h1
      · exact h
    have hd : t / k < d.size := Nat.div_lt_of_lt_mul (by rw [Nat.mul_comm]; exact h1)
    have hm : t % k < k := Nat.mod_lt _ hk0
    have g1 := get_flatK enc k d t h1
    rw [getElem!_pos _ t (by rw [size_flatK]; exact h1)] at g1
    rw [Array.getElem_toList, g1]
    have key : ∀ (l : List α) (q : Nat), q < l.length → ∀ j, j < k → (l.flatMap enc)[q * k + j]? = (enc l[q]!)[j]? := by
      intro l
      induction l with
      | nil => intro q hq; simp at hq
      | cons x l ih =>
        intro q hq j hj
        rw [List.flatMap_cons]
        cases q with
        | zero => rw [List.getElem?_append_left (by rw [hk]; omega)]; simp
        | succ q =>
          rw [List.getElem?_append_right (by rw [hk, Nat.add_mul]; omega), hk, show (q + 1) * k + j - k = q * k + j by rw [Nat.add_mul]; omega]
          rw [ih q (by simpa using hq) j hj]
          simp
    have h3 := key d.toList (t / k) (by simpa using hd) (t % k) hm
    rw [Nat.mul_comm, Nat.div_add_mod, List.getElem?_eq_getElem h2] at h3
    have h4 : d.toList[t / k]! = d[t / k]! := by
      rw [getElem!_pos d.toList _ (by simpa using hd), getElem!_pos d _ hd]
      simp
    rw [h4, List.getElem?_eq_getElem (by rw [hk]; exact hm)] at h3
    injection h3 with h3
    rw [h3, getElem!_pos _ _ (by rw [hk]; exact hm)]
section
variable {P : Program} {ρ : Shelf.Ren}
def vsAt (k : Nat) (vs : List Value) (n : Nat) (i : Nat) : List Value := (vs.drop ((if i < n then i else 0) * k)).take k
theorem world_grown {W w' : World} (h1 : w'.os = W.os) (h2 : w'.tape = W.tape) (h3 : w'.output = W.output) (h4 : W.heap.size ≤ w'.heap.size) (h5 : ∀ k, k < W.heap.size → w'.heap[k]? = W.heap[k]?) (h6 : W.drawn ≤ w'.drawn) :
    ∃ q os', w' = grow (W.drewN q) os' := by
  refine ⟨w'.drawn - W.drawn, w'.heap.extract W.heap.size w'.heap.size, ?_⟩
  obtain ⟨wh, wt, wd, wo, wp⟩ := w'
  obtain ⟨Wh, Wt, Wd, Wo, Wp⟩ := W
  simp only at h1 h2 h3 h4 h5 h6
  subst h1 h2 h3
  simp only [grow, World.drewN, World.mk.injEq, true_and, and_true]
  refine ⟨?_, by omega⟩
  apply Array.ext
  · simp; omega
  · intro i hi hi'
    rw [Array.getElem_append]
    split
    · rename_i hlt
      have := h5 i hlt
      rw [Array.getElem?_eq_getElem hi, Array.getElem?_eq_getElem hlt] at this
      exact Option.some.inj this
    · rename_i hlt
      rw [Array.getElem_extract]
      congr 1
      omega
end
end Go.Vx
