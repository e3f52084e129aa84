import Derived.Test.YtmhlgndhcfdlbaaDoorV1
import Derived.Test.YtmhlgndhcfdlbaaDoorProg
import Derived.KernelRfl
import Derived.Shelf.SlSortCmp.WholeK
import Derived.RangeFuncGives
import Derived.RangeFuncLeaves
import Derived.TacticsInMore
import Derived.ControlIn
import Derived.IntWalk
set_option linter.unusedSimpArgs false
namespace Go.Vx.Z
open Go Go.Vx Go.Proofs
set_option linter.unusedVariables false
set_option maxRecDepth 1000000
set_option maxHeartbeats 4000000
abbrev r0 : Ty := .cons .str <| .cons (.int .i64) <| .cons (.int .i64) <| .cons (.int .i64) <| .cons .str <| .unit
abbrev r1 : Ty := .cons (.int .i64) <| .cons (.int .i64) <| .cons (.int .i64) <| .cons .str <| .cons (.list r0) <| .cons .str <| .cons .str <| .unit
abbrev r2 : Ty := .cons .str <| .cons (.list r1) <| .unit
abbrev r3 : Ty := .cons .str <| .cons .str <| .cons .bool <| .cons .bool <| .cons (.int .i64) <| .cons (.int .i64) <| .cons (.int .i64) <| .cons .str <| .cons (.int .i64) <| .unit
abbrev r4 : Ty := .cons .str <| .cons .str <| .cons (.int .i64) <| .cons (.int .i64) <| .cons (.int .i64) <| .cons .str <| .unit
abbrev r5 : Ty := .cons (.int .i64) <| .cons (.int .i64) <| .cons (.int .i64) <| .cons .str <| .unit
abbrev r6 : Ty := .cons .str <| .cons (.int .i64) <| .cons (.int .i64) <| .cons (.int .i64) <| .cons .str <| .cons .str <| .cons (.int .i64) <| .cons (.int .i64) <| .cons (.int .i64) <| .cons .str <| .unit
noncomputable def e102 : FE := ⟨102, shByte, outInt, FIndexByte⟩
theorem ok102 : FEOK Tryd.prog e102 := ok_indexByte (fn := Tryd.f102) (by kernel_rfl) (by kernel_rfl) (by kernel_rfl) (by kernel_rfl) (by kernel_rfl)
noncomputable def e95 : FE := ⟨95, shByte, outInt, FCount⟩
theorem ok95 : FEOK Tryd.prog e95 := ok_count (fn := Tryd.f95) (by kernel_rfl) (by kernel_rfl) (by kernel_rfl) (by kernel_rfl) (by kernel_rfl)
noncomputable def e77 : FE := ⟨77, shCompare, outInt, FCompare⟩
theorem ok77 : FEOK Tryd.prog e77 := ok_compare (fn := Tryd.f77) (by kernel_rfl) (by kernel_rfl) (by kernel_rfl) (by kernel_rfl) (by kernel_rfl)
@[reducible] def sh10 : Shape := ⟨[(0, .one (.d (.list r6))), (1, .one (.d .str))], []⟩
@[reducible] def out10 : Shape := ⟨[(0, .row [.d .str, .d (.int .i64), .d (.int .i64), .d (.int .i64), .d .str, .d .str, .d (.int .i64), .d (.int .i64), .d (.int .i64), .d .str]), (1, .one (.d .bool))], []⟩
noncomputable def b10 : Code := Tryd.f10.body.getD .skip
@[reducible] def sh10_0 : Shape := ⟨[(1, .one (.d .str)), (4, .one (.ptr 200000 0)), (8, .one (.d (.list r6))), (9, .one (.d (.int .i64))), (10, .one (.d (.int .i64)))], [(200000, .box [.d .str, .d (.int .i64), .d (.int .i64), .d (.int .i64), .d .str, .d .str, .d (.int .i64), .d (.int .i64), .d (.int .i64), .d .str])]⟩
@[reducible] def os10_0 : List (XE × Shape) := [(.ret, ⟨[(4, .one (.ptr 200000 0)), (5, .one (.d .bool))], [(200000, .box [.d .str, .d (.int .i64), .d (.int .i64), .d (.int .i64), .d .str, .d .str, .d (.int .i64), .d (.int .i64), .d (.int .i64), .d .str])]⟩), (.ex 0, ⟨[(4, .one (.ptr 200000 0))], [(200000, .box [.d .str, .d (.int .i64), .d (.int .i64), .d (.int .i64), .d .str, .d .str, .d (.int .i64), .d (.int .i64), .d (.int .i64), .d .str])]⟩)]
noncomputable def cx10_0 : Cx := ⟨Tryd.prog, [], [], 21, [], []⟩
noncomputable def B10_0 : sh10_0.D → Option (sh10_0.D ⊕ OutsD os10_0) := round cx10_0 (sub [1, 0, 1, 0, 0] b10) sh10_0 os10_0
noncomputable def ce10_0 : CE := ⟨sh10_0, os10_0, loop B10_0⟩
theorem okc10_0 : CEOK Tryd.prog 21 (.loop (sub [1, 0, 1, 0, 0] b10)) ce10_0 := round_ok (cx := cx10_0) (fun R => step_sound (all_fe (P := Tryd.prog) (l := []) trivial) R) (needs_of (l := []) (by kernel_rfl) trivial) sh10_0 os10_0
noncomputable def cx10 : Cx := ⟨Tryd.prog, [], [], 21, [(4, ce10_0)], []⟩
noncomputable def F10 : sh10.D → Option out10.D := func cx10 Tryd.f10 b10 sh10 out10
noncomputable def e10 : FE := ⟨10, sh10, out10, F10⟩
theorem ok10 : FEOK Tryd.prog e10 := func_ok (cx := cx10) (fn := Tryd.f10) (c := b10) (all_fe (P := Tryd.prog) (l := []) trivial) (by kernel_rfl) (by kernel_rfl) (by kernel_rfl) (by kernel_rfl) (by kernel_rfl) (needs_of (l := [((.loop (sub [1, 0, 1, 0, 0] b10)), ce10_0)]) (by kernel_rfl) ⟨okc10_0, trivial⟩)
@[reducible] def sh11 : Shape := ⟨[(0, .one (.d (.list r0))), (1, .one (.d (.list r0)))], []⟩
@[reducible] def out11 : Shape := ⟨[(0, .one (.d .bool))], []⟩
noncomputable def b11 : Code := Tryd.f11.body.getD .skip
@[reducible] def sh11_0 : Shape := ⟨[(0, .one (.d (.list r0))), (1, .one (.d (.list r0))), (5, .one (.d (.int .i64)))], []⟩
@[reducible] def os11_0 : List (XE × Shape) := [(.ret, ⟨[(4, .one (.d .bool))], []⟩), (.ex 0, ⟨[], []⟩)]
noncomputable def cx11_0 : Cx := ⟨Tryd.prog, [], [], 26, [], []⟩
noncomputable def B11_0 : sh11_0.D → Option (sh11_0.D ⊕ OutsD os11_0) := round cx11_0 (sub [1, 1, 0, 1, 0, 0] b11) sh11_0 os11_0
noncomputable def ce11_0 : CE := ⟨sh11_0, os11_0, loop B11_0⟩
theorem okc11_0 : CEOK Tryd.prog 26 (.loop (sub [1, 1, 0, 1, 0, 0] b11)) ce11_0 := round_ok (cx := cx11_0) (fun R => step_sound (all_fe (P := Tryd.prog) (l := []) trivial) R) (needs_of (l := []) (by kernel_rfl) trivial) sh11_0 os11_0
noncomputable def cx11 : Cx := ⟨Tryd.prog, [], [], 26, [(8, ce11_0)], []⟩
noncomputable def F11 : sh11.D → Option out11.D := func cx11 Tryd.f11 b11 sh11 out11
noncomputable def e11 : FE := ⟨11, sh11, out11, F11⟩
theorem ok11 : FEOK Tryd.prog e11 := func_ok (cx := cx11) (fn := Tryd.f11) (c := b11) (all_fe (P := Tryd.prog) (l := []) trivial) (by kernel_rfl) (by kernel_rfl) (by kernel_rfl) (by kernel_rfl) (by kernel_rfl) (needs_of (l := [((.loop (sub [1, 1, 0, 1, 0, 0] b11)), ce11_0)]) (by kernel_rfl) ⟨okc11_0, trivial⟩)
@[reducible] def sh19 : Shape := ⟨[(0, .row [.d (.list r2), .d (.list r3)]), (1, .row [.d .str, .d (.list r0), .d (.list r0), .d (.list r4)])], []⟩
@[reducible] def out19 : Shape := ⟨[(0, .row [.d .str, .d (.list r0), .d (.list r0), .d (.list r4), .d (.list r2), .d (.list r3)])], []⟩
noncomputable def b19 : Code := Tryd.f19.body.getD .skip
noncomputable def cx19 : Cx := ⟨Tryd.prog, [], [], 9, [], []⟩
noncomputable def F19 : sh19.D → Option out19.D := func cx19 Tryd.f19 b19 sh19 out19
noncomputable def e19 : FE := ⟨19, sh19, out19, F19⟩
theorem ok19 : FEOK Tryd.prog e19 := func_ok (cx := cx19) (fn := Tryd.f19) (c := b19) (all_fe (P := Tryd.prog) (l := []) trivial) (by kernel_rfl) (by kernel_rfl) (by kernel_rfl) (by kernel_rfl) (by kernel_rfl) (needs_of (l := []) (by kernel_rfl) trivial)
@[reducible] def sh28 : Shape := ⟨[(0, .row [.d .str, .d (.list r0), .d (.list r0), .d (.list r4), .d (.list r2), .d (.list r3)]), (1, .one (.d .str))], []⟩
@[reducible] def out28 : Shape := ⟨[(0, .row [.d .str, .d .str, .d (.int .i64), .d (.int .i64), .d (.int .i64), .d .str]), (1, .one (.d .bool))], []⟩
noncomputable def b28 : Code := Tryd.f28.body.getD .skip
@[reducible] def sh28_0 : Shape := ⟨[(1, .one (.d .str)), (4, .one (.ptr 200000 0)), (10, .one (.d (.list r4))), (11, .one (.d (.int .i64))), (12, .one (.d (.int .i64)))], [(200000, .box [.d .str, .d .str, .d (.int .i64), .d (.int .i64), .d (.int .i64), .d .str])]⟩
@[reducible] def os28_0 : List (XE × Shape) := [(.ret, ⟨[(4, .one (.ptr 200000 0)), (5, .one (.d .bool))], [(200000, .box [.d .str, .d .str, .d (.int .i64), .d (.int .i64), .d (.int .i64), .d .str])]⟩), (.ex 0, ⟨[(4, .one (.ptr 200000 0))], [(200000, .box [.d .str, .d .str, .d (.int .i64), .d (.int .i64), .d (.int .i64), .d .str])]⟩)]
noncomputable def cx28_0 : Cx := ⟨Tryd.prog, [], [], 23, [], []⟩
noncomputable def B28_0 : sh28_0.D → Option (sh28_0.D ⊕ OutsD os28_0) := round cx28_0 (sub [1, 0, 1, 0, 0] b28) sh28_0 os28_0
noncomputable def ce28_0 : CE := ⟨sh28_0, os28_0, loop B28_0⟩
theorem okc28_0 : CEOK Tryd.prog 23 (.loop (sub [1, 0, 1, 0, 0] b28)) ce28_0 := round_ok (cx := cx28_0) (fun R => step_sound (all_fe (P := Tryd.prog) (l := []) trivial) R) (needs_of (l := []) (by kernel_rfl) trivial) sh28_0 os28_0
noncomputable def cx28 : Cx := ⟨Tryd.prog, [], [], 23, [(4, ce28_0)], []⟩
noncomputable def F28 : sh28.D → Option out28.D := func cx28 Tryd.f28 b28 sh28 out28
noncomputable def e28 : FE := ⟨28, sh28, out28, F28⟩
theorem ok28 : FEOK Tryd.prog e28 := func_ok (cx := cx28) (fn := Tryd.f28) (c := b28) (all_fe (P := Tryd.prog) (l := []) trivial) (by kernel_rfl) (by kernel_rfl) (by kernel_rfl) (by kernel_rfl) (by kernel_rfl) (needs_of (l := [((.loop (sub [1, 0, 1, 0, 0] b28)), ce28_0)]) (by kernel_rfl) ⟨okc28_0, trivial⟩)
@[reducible] def sh26 : Shape := ⟨[(0, .one (.d (.list r0)))], []⟩
@[reducible] def out26 : Shape := ⟨[(0, .one (.own 200000))], [(200000, .lst 39 r0 true)]⟩
noncomputable def b26 : Code := Tryd.f26.body.getD .skip
noncomputable def cx26 : Cx := ⟨Tryd.prog, [], [], 8, [], []⟩
noncomputable def F26 : sh26.D → Option out26.D := func cx26 Tryd.f26 b26 sh26 out26
noncomputable def e26 : FE := ⟨26, sh26, out26, F26⟩
theorem ok26 : FEOK Tryd.prog e26 := func_ok (cx := cx26) (fn := Tryd.f26) (c := b26) (all_fe (P := Tryd.prog) (l := []) trivial) (by kernel_rfl) (by kernel_rfl) (by kernel_rfl) (by kernel_rfl) (by kernel_rfl) (needs_of (l := []) (by kernel_rfl) trivial)
@[reducible] def sh67 : Shape := ⟨[(0, .row [.d (.list r2), .d (.list r3)]), (1, .one (.d .str))], []⟩
@[reducible] def out67 : Shape := ⟨[(0, .row [.d .str, .d (.list r1)]), (1, .one (.d .bool))], []⟩
noncomputable def b67 : Code := Tryd.f67.body.getD .skip
@[reducible] def sh67_0 : Shape := ⟨[(1, .one (.d .str)), (4, .one (.ptr 200000 0)), (10, .one (.d (.list r2))), (11, .one (.d (.int .i64))), (12, .one (.d (.int .i64)))], [(200000, .box [.d .str, .nilS])]⟩
@[reducible] def os67_0 : List (XE × Shape) := [(.ret, ⟨[(4, .one (.ptr 200000 0)), (5, .one (.d .bool))], [(200000, .box [.d .str, .d (.list r1)])]⟩), (.ex 0, ⟨[(4, .one (.ptr 200000 0))], [(200000, .box [.d .str, .nilS])]⟩)]
noncomputable def cx67_0 : Cx := ⟨Tryd.prog, [], [], 23, [], []⟩
noncomputable def B67_0 : sh67_0.D → Option (sh67_0.D ⊕ OutsD os67_0) := round cx67_0 (sub [1, 0, 1, 0, 0] b67) sh67_0 os67_0
noncomputable def ce67_0 : CE := ⟨sh67_0, os67_0, loop B67_0⟩
theorem okc67_0 : CEOK Tryd.prog 23 (.loop (sub [1, 0, 1, 0, 0] b67)) ce67_0 := round_ok (cx := cx67_0) (fun R => step_sound (all_fe (P := Tryd.prog) (l := []) trivial) R) (needs_of (l := []) (by kernel_rfl) trivial) sh67_0 os67_0
noncomputable def cx67 : Cx := ⟨Tryd.prog, [], [], 23, [(4, ce67_0)], []⟩
noncomputable def F67 : sh67.D → Option out67.D := func cx67 Tryd.f67 b67 sh67 out67
noncomputable def e67 : FE := ⟨67, sh67, out67, F67⟩
theorem ok67 : FEOK Tryd.prog e67 := func_ok (cx := cx67) (fn := Tryd.f67) (c := b67) (all_fe (P := Tryd.prog) (l := []) trivial) (by kernel_rfl) (by kernel_rfl) (by kernel_rfl) (by kernel_rfl) (by kernel_rfl) (needs_of (l := [((.loop (sub [1, 0, 1, 0, 0] b67)), ce67_0)]) (by kernel_rfl) ⟨okc67_0, trivial⟩)
@[reducible] def sh42 : Shape := ⟨[(0, .row [.d (.list r2), .d (.list r3)]), (1, .one (.d .str)), (2, .row [.d (.int .i64), .d (.int .i64), .d (.int .i64), .d .str])], []⟩
@[reducible] def out42 : Shape := ⟨[(0, .row [.d (.int .i64), .d (.int .i64), .d (.int .i64), .d .str, .d (.list r0), .d .str, .d .str]), (1, .one (.d .bool))], []⟩
noncomputable def b42 : Code := Tryd.f42.body.getD .skip
@[reducible] def sh42_0 : Shape := ⟨[(5, .one (.ptr 200000 0)), (6, .one (.ptr 200001 0)), (19, .one (.d (.list r1))), (20, .one (.d (.int .i64))), (21, .one (.d (.int .i64)))], [(200000, .box [.d (.int .i64), .d (.int .i64), .d (.int .i64), .d .str]), (200001, .box [.d (.int .i64), .d (.int .i64), .d (.int .i64), .d .str, .nilS, .d .str, .d .str])]⟩
@[reducible] def os42_0 : List (XE × Shape) := [(.ret, ⟨[(6, .one (.ptr 200000 0)), (7, .one (.d .bool))], [(200000, .box [.d (.int .i64), .d (.int .i64), .d (.int .i64), .d .str, .d (.list r0), .d .str, .d .str])]⟩), (.ex 0, ⟨[(6, .one (.ptr 200000 0))], [(200000, .box [.d (.int .i64), .d (.int .i64), .d (.int .i64), .d .str, .nilS, .d .str, .d .str])]⟩)]
noncomputable def cx42_0 : Cx := ⟨Tryd.prog, [e67], [], 32, [], []⟩
noncomputable def B42_0 : sh42_0.D → Option (sh42_0.D ⊕ OutsD os42_0) := round cx42_0 (sub [1, 1, 0, 1, 0, 0] b42) sh42_0 os42_0
noncomputable def ce42_0 : CE := ⟨sh42_0, os42_0, loop B42_0⟩
theorem okc42_0 : CEOK Tryd.prog 32 (.loop (sub [1, 1, 0, 1, 0, 0] b42)) ce42_0 := round_ok (cx := cx42_0) (fun R => step_sound (all_fe (P := Tryd.prog) (l := [e67]) ⟨ok67, trivial⟩) R) (needs_of (l := []) (by kernel_rfl) trivial) sh42_0 os42_0
noncomputable def cx42 : Cx := ⟨Tryd.prog, [e67], [], 32, [(6, ce42_0)], []⟩
noncomputable def F42 : sh42.D → Option out42.D := func cx42 Tryd.f42 b42 sh42 out42
noncomputable def e42 : FE := ⟨42, sh42, out42, F42⟩
theorem ok42 : FEOK Tryd.prog e42 := func_ok (cx := cx42) (fn := Tryd.f42) (c := b42) (all_fe (P := Tryd.prog) (l := [e67]) ⟨ok67, trivial⟩) (by kernel_rfl) (by kernel_rfl) (by kernel_rfl) (by kernel_rfl) (by kernel_rfl) (needs_of (l := [((.loop (sub [1, 1, 0, 1, 0, 0] b42)), ce42_0)]) (by kernel_rfl) ⟨okc42_0, trivial⟩)
@[reducible] def sh29 : Shape := ⟨[(0, .row [.d (.list r2), .d (.list r3)]), (1, .one (.d .str)), (2, .row [.d (.int .i64), .d (.int .i64), .d (.int .i64), .d .str])], []⟩
@[reducible] def out29 : Shape := ⟨[(0, .row [.d (.int .i64), .d (.int .i64), .d (.int .i64), .d .str, .d (.list r0), .d .str, .d .str]), (1, .one (.d .bool))], []⟩
noncomputable def b29 : Code := Tryd.f29.body.getD .skip
noncomputable def cx29 : Cx := ⟨Tryd.prog, [e26, e42], [], 24, [], []⟩
noncomputable def F29 : sh29.D → Option out29.D := func cx29 Tryd.f29 b29 sh29 out29
noncomputable def e29 : FE := ⟨29, sh29, out29, F29⟩
theorem ok29 : FEOK Tryd.prog e29 := func_ok (cx := cx29) (fn := Tryd.f29) (c := b29) (all_fe (P := Tryd.prog) (l := [e26, e42]) ⟨ok26, ok42, trivial⟩) (by kernel_rfl) (by kernel_rfl) (by kernel_rfl) (by kernel_rfl) (by kernel_rfl) (needs_of (l := []) (by kernel_rfl) trivial)
@[reducible] def sh84 : Shape := ⟨[(0, .one (.d (.list r0))), (1, .row [.d .str, .d (.int .i64), .d (.int .i64), .d (.int .i64), .d .str])], []⟩
@[reducible] def out84 : Shape := ⟨[(0, .one (.d (.int .i64)))], []⟩
noncomputable def b84 : Code := Tryd.f84.body.getD .skip
@[reducible] def sh84_0 : Shape := ⟨[(0, .one (.d (.list r0))), (3, .one (.ptr 200000 0)), (7, .one (.d (.int .i64))), (8, .one (.d (.int .i64)))], [(200000, .box [.d .str, .d (.int .i64), .d (.int .i64), .d (.int .i64), .d .str])]⟩
@[reducible] def os84_0 : List (XE × Shape) := [(.ret, ⟨[(4, .one (.d (.int .i64)))], []⟩), (.ex 0, ⟨[], []⟩)]
noncomputable def cx84_0 : Cx := ⟨Tryd.prog, [], [], 19, [], []⟩
noncomputable def B84_0 : sh84_0.D → Option (sh84_0.D ⊕ OutsD os84_0) := round cx84_0 (sub [1, 0, 1, 0, 0] b84) sh84_0 os84_0
noncomputable def ce84_0 : CE := ⟨sh84_0, os84_0, loop B84_0⟩
theorem okc84_0 : CEOK Tryd.prog 19 (.loop (sub [1, 0, 1, 0, 0] b84)) ce84_0 := round_ok (cx := cx84_0) (fun R => step_sound (all_fe (P := Tryd.prog) (l := []) trivial) R) (needs_of (l := []) (by kernel_rfl) trivial) sh84_0 os84_0
noncomputable def cx84 : Cx := ⟨Tryd.prog, [], [], 19, [(4, ce84_0)], []⟩
noncomputable def F84 : sh84.D → Option out84.D := func cx84 Tryd.f84 b84 sh84 out84
noncomputable def e84 : FE := ⟨84, sh84, out84, F84⟩
theorem ok84 : FEOK Tryd.prog e84 := func_ok (cx := cx84) (fn := Tryd.f84) (c := b84) (all_fe (P := Tryd.prog) (l := []) trivial) (by kernel_rfl) (by kernel_rfl) (by kernel_rfl) (by kernel_rfl) (by kernel_rfl) (needs_of (l := [((.loop (sub [1, 0, 1, 0, 0] b84)), ce84_0)]) (by kernel_rfl) ⟨okc84_0, trivial⟩)
@[reducible] def sh69 : Shape := ⟨[(0, .one (.d (.list r0))), (1, .row [.d .str, .d (.int .i64), .d (.int .i64), .d (.int .i64), .d .str])], []⟩
@[reducible] def out69 : Shape := ⟨[(0, .one (.d .bool))], []⟩
noncomputable def b69 : Code := Tryd.f69.body.getD .skip
noncomputable def cx69 : Cx := ⟨Tryd.prog, [e84], [], 9, [], []⟩
noncomputable def F69 : sh69.D → Option out69.D := func cx69 Tryd.f69 b69 sh69 out69
noncomputable def e69 : FE := ⟨69, sh69, out69, F69⟩
theorem ok69 : FEOK Tryd.prog e69 := func_ok (cx := cx69) (fn := Tryd.f69) (c := b69) (all_fe (P := Tryd.prog) (l := [e84]) ⟨ok84, trivial⟩) (by kernel_rfl) (by kernel_rfl) (by kernel_rfl) (by kernel_rfl) (by kernel_rfl) (needs_of (l := []) (by kernel_rfl) trivial)
@[reducible] def sh45 : Shape := ⟨[(0, .row [.d .str, .d (.list r0), .d (.list r0), .d (.list r4), .d (.list r2), .d (.list r3)]), (1, .row [.d .str, .d (.int .i64), .d (.int .i64), .d (.int .i64), .d .str])], []⟩
@[reducible] def out45 : Shape := ⟨[(0, .one (.d .bool))], []⟩
noncomputable def b45 : Code := Tryd.f45.body.getD .skip
noncomputable def cx45 : Cx := ⟨Tryd.prog, [e69], [], 10, [], []⟩
noncomputable def F45 : sh45.D → Option out45.D := func cx45 Tryd.f45 b45 sh45 out45
noncomputable def e45 : FE := ⟨45, sh45, out45, F45⟩
theorem ok45 : FEOK Tryd.prog e45 := func_ok (cx := cx45) (fn := Tryd.f45) (c := b45) (all_fe (P := Tryd.prog) (l := [e69]) ⟨ok69, trivial⟩) (by kernel_rfl) (by kernel_rfl) (by kernel_rfl) (by kernel_rfl) (by kernel_rfl) (needs_of (l := []) (by kernel_rfl) trivial)
@[reducible] def sh61 : Shape := ⟨[(0, .one (.d (.list (.int .i64))))], []⟩
@[reducible] def out61 : Shape := ⟨[(0, .one (.d (.int .i64)))], []⟩
noncomputable def b61 : Code := Tryd.f61.body.getD .skip
@[reducible] def sh61_0 : Shape := ⟨[(3, .one (.d (.int .i64))), (6, .one (.d (.list (.int .i64)))), (7, .one (.d (.int .i64))), (8, .one (.d (.int .i64)))], []⟩
@[reducible] def os61_0 : List (XE × Shape) := [(.ret, ⟨[(2, .one (.d (.int .i64)))], []⟩), (.ex 0, ⟨[(3, .one (.d (.int .i64)))], []⟩)]
noncomputable def cx61_0 : Cx := ⟨Tryd.prog, [], [], 18, [], []⟩
noncomputable def B61_0 : sh61_0.D → Option (sh61_0.D ⊕ OutsD os61_0) := round cx61_0 (sub [1, 1, 0, 1, 0, 0] b61) sh61_0 os61_0
noncomputable def ce61_0 : CE := ⟨sh61_0, os61_0, loop B61_0⟩
theorem okc61_0 : CEOK Tryd.prog 18 (.loop (sub [1, 1, 0, 1, 0, 0] b61)) ce61_0 := round_ok (cx := cx61_0) (fun R => step_sound (all_fe (P := Tryd.prog) (l := []) trivial) R) (needs_of (l := []) (by kernel_rfl) trivial) sh61_0 os61_0
noncomputable def cx61 : Cx := ⟨Tryd.prog, [], [], 18, [(6, ce61_0)], []⟩
noncomputable def F61 : sh61.D → Option out61.D := func cx61 Tryd.f61 b61 sh61 out61
noncomputable def e61 : FE := ⟨61, sh61, out61, F61⟩
theorem ok61 : FEOK Tryd.prog e61 := func_ok (cx := cx61) (fn := Tryd.f61) (c := b61) (all_fe (P := Tryd.prog) (l := []) trivial) (by kernel_rfl) (by kernel_rfl) (by kernel_rfl) (by kernel_rfl) (by kernel_rfl) (needs_of (l := [((.loop (sub [1, 1, 0, 1, 0, 0] b61)), ce61_0)]) (by kernel_rfl) ⟨okc61_0, trivial⟩)
@[reducible] def sh78 : Shape := ⟨[(0, .one (.d (.int .i64)))], []⟩
@[reducible] def out78 : Shape := ⟨[(0, .one (.d .bool))], []⟩
noncomputable def b78 : Code := Tryd.f78.body.getD .skip
noncomputable def cx78 : Cx := ⟨Tryd.prog, [], [], 6, [], []⟩
noncomputable def F78 : sh78.D → Option out78.D := func cx78 Tryd.f78 b78 sh78 out78
noncomputable def e78 : FE := ⟨78, sh78, out78, F78⟩
theorem ok78 : FEOK Tryd.prog e78 := func_ok (cx := cx78) (fn := Tryd.f78) (c := b78) (all_fe (P := Tryd.prog) (l := []) trivial) (by kernel_rfl) (by kernel_rfl) (by kernel_rfl) (by kernel_rfl) (by kernel_rfl) (needs_of (l := []) (by kernel_rfl) trivial)
@[reducible] def sh62 : Shape := ⟨[(0, .one (.d (.int .i64))), (1, .one (.d (.int .i64)))], []⟩
@[reducible] def out62 : Shape := ⟨[(0, .one (.d (.int .i64)))], []⟩
noncomputable def b62 : Code := Tryd.f62.body.getD .skip
noncomputable def cx62 : Cx := ⟨Tryd.prog, [e78], [], 20, [], []⟩
noncomputable def F62 : sh62.D → Option out62.D := func cx62 Tryd.f62 b62 sh62 out62
noncomputable def e62 : FE := ⟨62, sh62, out62, F62⟩
theorem ok62 : FEOK Tryd.prog e62 := func_ok (cx := cx62) (fn := Tryd.f62) (c := b62) (all_fe (P := Tryd.prog) (l := [e78]) ⟨ok78, trivial⟩) (by kernel_rfl) (by kernel_rfl) (by kernel_rfl) (by kernel_rfl) (by kernel_rfl) (needs_of (l := []) (by kernel_rfl) trivial)
@[reducible] def sh87 : Shape := ⟨[(0, .one (.d .str))], []⟩
@[reducible] def out87 : Shape := ⟨[(0, .one (.d .bool))], []⟩
noncomputable def b87 : Code := Tryd.f87.body.getD .skip
@[reducible] def sh87_0 : Shape := ⟨[(0, .one (.d .str)), (5, .one (.d (.int .i64))), (6, .one (.d (.int .i64)))], []⟩
@[reducible] def os87_0 : List (XE × Shape) := [(.ret, ⟨[(2, .one (.d .bool))], []⟩), (.ex 0, ⟨[(0, .one (.d .str))], []⟩)]
noncomputable def cx87_0 : Cx := ⟨Tryd.prog, [], [], 22, [], []⟩
noncomputable def B87_0 : sh87_0.D → Option (sh87_0.D ⊕ OutsD os87_0) := round cx87_0 (sub [1, 0, 1, 0, 0] b87) sh87_0 os87_0
noncomputable def ce87_0 : CE := ⟨sh87_0, os87_0, loop B87_0⟩
theorem okc87_0 : CEOK Tryd.prog 22 (.loop (sub [1, 0, 1, 0, 0] b87)) ce87_0 := round_ok (cx := cx87_0) (fun R => step_sound (all_fe (P := Tryd.prog) (l := []) trivial) R) (needs_of (l := []) (by kernel_rfl) trivial) sh87_0 os87_0
noncomputable def cx87 : Cx := ⟨Tryd.prog, [], [], 22, [(4, ce87_0)], []⟩
noncomputable def F87 : sh87.D → Option out87.D := func cx87 Tryd.f87 b87 sh87 out87
noncomputable def e87 : FE := ⟨87, sh87, out87, F87⟩
theorem ok87 : FEOK Tryd.prog e87 := func_ok (cx := cx87) (fn := Tryd.f87) (c := b87) (all_fe (P := Tryd.prog) (l := []) trivial) (by kernel_rfl) (by kernel_rfl) (by kernel_rfl) (by kernel_rfl) (by kernel_rfl) (needs_of (l := [((.loop (sub [1, 0, 1, 0, 0] b87)), ce87_0)]) (by kernel_rfl) ⟨okc87_0, trivial⟩)
@[reducible] def sh92 : Shape := ⟨[(0, .one (.d .str))], []⟩
@[reducible] def out92 : Shape := ⟨[(0, .one (.d .bool))], []⟩
noncomputable def b92 : Code := Tryd.f92.body.getD .skip
noncomputable def cx92 : Cx := ⟨Tryd.prog, [], [], 6, [], []⟩
noncomputable def F92 : sh92.D → Option out92.D := func cx92 Tryd.f92 b92 sh92 out92
noncomputable def e92 : FE := ⟨92, sh92, out92, F92⟩
theorem ok92 : FEOK Tryd.prog e92 := func_ok (cx := cx92) (fn := Tryd.f92) (c := b92) (all_fe (P := Tryd.prog) (l := []) trivial) (by kernel_rfl) (by kernel_rfl) (by kernel_rfl) (by kernel_rfl) (by kernel_rfl) (needs_of (l := []) (by kernel_rfl) trivial)
@[reducible] def sh88 : Shape := ⟨[(0, .one (.d .str)), (1, .one (.d .str))], []⟩
@[reducible] def out88 : Shape := ⟨[(0, .one (.d (.int .i64)))], []⟩
noncomputable def b88 : Code := Tryd.f88.body.getD .skip
noncomputable def cx88 : Cx := ⟨Tryd.prog, [e92], [], 20, [], []⟩
noncomputable def F88 : sh88.D → Option out88.D := func cx88 Tryd.f88 b88 sh88 out88
noncomputable def e88 : FE := ⟨88, sh88, out88, F88⟩
theorem ok88 : FEOK Tryd.prog e88 := func_ok (cx := cx88) (fn := Tryd.f88) (c := b88) (all_fe (P := Tryd.prog) (l := [e92]) ⟨ok92, trivial⟩) (by kernel_rfl) (by kernel_rfl) (by kernel_rfl) (by kernel_rfl) (by kernel_rfl) (needs_of (l := []) (by kernel_rfl) trivial)
@[reducible] def sh81 : Shape := ⟨[(0, .one (.d .str)), (1, .one (.d .str))], []⟩
@[reducible] def out81 : Shape := ⟨[(0, .one (.d (.int .i64)))], []⟩
noncomputable def b81 : Code := Tryd.f81.body.getD .skip
noncomputable def cx81 : Cx := ⟨Tryd.prog, [e61, e62, e87, e88], [], 33, [], []⟩
noncomputable def F81 : sh81.D → Option out81.D := func cx81 Tryd.f81 b81 sh81 out81
noncomputable def e81 : FE := ⟨81, sh81, out81, F81⟩
theorem ok81 : FEOK Tryd.prog e81 := func_ok (cx := cx81) (fn := Tryd.f81) (c := b81) (all_fe (P := Tryd.prog) (l := [e61, e62, e87, e88]) ⟨ok61, ok62, ok87, ok88, trivial⟩) (by kernel_rfl) (by kernel_rfl) (by kernel_rfl) (by kernel_rfl) (by kernel_rfl) (needs_of (l := []) (by kernel_rfl) trivial)
@[reducible] def sh79 : Shape := ⟨[(0, .one (.d (.list .str))), (1, .one (.d (.list .str))), (2, .one (.fn 81))], []⟩
@[reducible] def out79 : Shape := ⟨[(0, .one (.d (.int .i64)))], []⟩
noncomputable def b79 : Code := Tryd.f79.body.getD .skip
@[reducible] def sh79_0 : Shape := ⟨[(0, .one (.d (.list .str))), (1, .one (.d (.list .str))), (2, .one (.fn 81)), (11, .one (.d (.list .str))), (12, .one (.d (.int .i64))), (13, .one (.d (.int .i64)))], []⟩
@[reducible] def os79_0 : List (XE × Shape) := [(.ret, ⟨[(6, .one (.d (.int .i64)))], []⟩), (.ex 0, ⟨[(0, .one (.d (.list .str))), (1, .one (.d (.list .str)))], []⟩)]
noncomputable def cx79_0 : Cx := ⟨Tryd.prog, [e81], [], 39, [], []⟩
noncomputable def B79_0 : sh79_0.D → Option (sh79_0.D ⊕ OutsD os79_0) := round cx79_0 (sub [1, 0, 1, 0, 0] b79) sh79_0 os79_0
noncomputable def ce79_0 : CE := ⟨sh79_0, os79_0, loop B79_0⟩
theorem okc79_0 : CEOK Tryd.prog 39 (.loop (sub [1, 0, 1, 0, 0] b79)) ce79_0 := round_ok (cx := cx79_0) (fun R => step_sound (all_fe (P := Tryd.prog) (l := [e81]) ⟨ok81, trivial⟩) R) (needs_of (l := []) (by kernel_rfl) trivial) sh79_0 os79_0
noncomputable def cx79 : Cx := ⟨Tryd.prog, [e81], [], 39, [(4, ce79_0)], []⟩
noncomputable def F79 : sh79.D → Option out79.D := func cx79 Tryd.f79 b79 sh79 out79
noncomputable def e79 : FE := ⟨79, sh79, out79, F79⟩
theorem ok79 : FEOK Tryd.prog e79 := func_ok (cx := cx79) (fn := Tryd.f79) (c := b79) (all_fe (P := Tryd.prog) (l := [e81]) ⟨ok81, trivial⟩) (by kernel_rfl) (by kernel_rfl) (by kernel_rfl) (by kernel_rfl) (by kernel_rfl) (needs_of (l := [((.loop (sub [1, 0, 1, 0, 0] b79)), ce79_0)]) (by kernel_rfl) ⟨okc79_0, trivial⟩)
@[reducible] def sh98 : Shape := ⟨[(0, .one (.d .str)), (1, .one (.d (.int .u8)))], []⟩
@[reducible] def out98 : Shape := ⟨[(0, .one (.d (.int .i64)))], []⟩
noncomputable def b98 : Code := Tryd.f98.body.getD .skip
noncomputable def cx98 : Cx := ⟨Tryd.prog, [e102], [], 8, [], []⟩
noncomputable def F98 : sh98.D → Option out98.D := func cx98 Tryd.f98 b98 sh98 out98
noncomputable def e98 : FE := ⟨98, sh98, out98, F98⟩
theorem ok98 : FEOK Tryd.prog e98 := func_ok (cx := cx98) (fn := Tryd.f98) (c := b98) (all_fe (P := Tryd.prog) (l := [e102]) ⟨ok102, trivial⟩) (by kernel_rfl) (by kernel_rfl) (by kernel_rfl) (by kernel_rfl) (by kernel_rfl) (needs_of (l := []) (by kernel_rfl) trivial)
@[reducible] def sh96 : Shape := ⟨[(0, .one (.d .str)), (1, .one (.d .str))], []⟩
@[reducible] def out96 : Shape := ⟨[(0, .one (.d (.int .i64)))], []⟩
noncomputable def b96 : Code := Tryd.f96.body.getD .skip
noncomputable def cx96 : Cx := ⟨Tryd.prog, [e98], [], 143, [], []⟩
noncomputable def F96 : sh96.D → Option out96.D := func cx96 Tryd.f96 b96 sh96 out96
noncomputable def e96 : FE := ⟨96, sh96, out96, F96⟩
theorem ok96 : FEOK Tryd.prog e96 := func_ok (cx := cx96) (fn := Tryd.f96) (c := b96) (all_fe (P := Tryd.prog) (l := [e98]) ⟨ok98, trivial⟩) (by kernel_rfl) (by kernel_rfl) (by kernel_rfl) (by kernel_rfl) (by kernel_rfl) (needs_of (l := []) (by kernel_rfl) trivial)
@[reducible] def sh91 : Shape := ⟨[(0, .one (.d .str)), (1, .one (.d .str))], []⟩
@[reducible] def out91 : Shape := ⟨[(0, .one (.d (.int .i64)))], []⟩
noncomputable def b91 : Code := Tryd.f91.body.getD .skip
noncomputable def cx91 : Cx := ⟨Tryd.prog, [e96], [], 8, [], []⟩
noncomputable def F91 : sh91.D → Option out91.D := func cx91 Tryd.f91 b91 sh91 out91
noncomputable def e91 : FE := ⟨91, sh91, out91, F91⟩
theorem ok91 : FEOK Tryd.prog e91 := func_ok (cx := cx91) (fn := Tryd.f91) (c := b91) (all_fe (P := Tryd.prog) (l := [e96]) ⟨ok96, trivial⟩) (by kernel_rfl) (by kernel_rfl) (by kernel_rfl) (by kernel_rfl) (by kernel_rfl) (needs_of (l := []) (by kernel_rfl) trivial)
@[reducible] def sh90 : Shape := ⟨[(0, .one (.d .str)), (1, .one (.d .str))], []⟩
@[reducible] def out90 : Shape := ⟨[(0, .one (.d (.int .i64)))], []⟩
noncomputable def b90 : Code := Tryd.f90.body.getD .skip
@[reducible] def sh90_0 : Shape := ⟨[(0, .one (.d .str)), (1, .one (.d .str)), (5, .one (.d (.int .i64)))], []⟩
@[reducible] def os90_0 : List (XE × Shape) := [(.ret, ⟨[(4, .one (.d (.int .i64)))], []⟩)]
noncomputable def cx90_0 : Cx := ⟨Tryd.prog, [e91, e95], [], 34, [], []⟩
noncomputable def B90_0 : sh90_0.D → Option (sh90_0.D ⊕ OutsD os90_0) := round cx90_0 (sub [1, 1, 1, 1, 0, 0] b90) sh90_0 os90_0
noncomputable def ce90_0 : CE := ⟨sh90_0, os90_0, loop B90_0⟩
theorem okc90_0 : CEOK Tryd.prog 34 (.loop (sub [1, 1, 1, 1, 0, 0] b90)) ce90_0 := round_ok (cx := cx90_0) (fun R => step_sound (all_fe (P := Tryd.prog) (l := [e91, e95]) ⟨ok91, ok95, trivial⟩) R) (needs_of (l := []) (by kernel_rfl) trivial) sh90_0 os90_0
noncomputable def cx90 : Cx := ⟨Tryd.prog, [e91, e95], [], 34, [(12, ce90_0)], []⟩
noncomputable def F90 : sh90.D → Option out90.D := func cx90 Tryd.f90 b90 sh90 out90
noncomputable def e90 : FE := ⟨90, sh90, out90, F90⟩
theorem ok90 : FEOK Tryd.prog e90 := func_ok (cx := cx90) (fn := Tryd.f90) (c := b90) (all_fe (P := Tryd.prog) (l := [e91, e95]) ⟨ok91, ok95, trivial⟩) (by kernel_rfl) (by kernel_rfl) (by kernel_rfl) (by kernel_rfl) (by kernel_rfl) (needs_of (l := [((.loop (sub [1, 1, 1, 1, 0, 0] b90)), ce90_0)]) (by kernel_rfl) ⟨okc90_0, trivial⟩)
@[reducible] def sh86 : Shape := ⟨[(0, .one (.d .str)), (1, .one (.d .str)), (2, .one (.d (.int .i64))), (3, .one (.d (.int .i64)))], []⟩
@[reducible] def out86 : Shape := ⟨[(0, .one (.d (.list .str)))], []⟩
noncomputable def b86 : Code := Tryd.f86.body.getD .skip
@[reducible] def sh86_0 : Shape := ⟨[(0, .one (.d .str)), (1, .one (.d .str)), (2, .one (.d (.int .i64))), (3, .one (.d (.int .i64))), (9, .one (.own 200000)), (10, .one (.d (.int .i64)))], [(200000, .lst 9 .str false)]⟩
@[reducible] def os86_0 : List (XE × Shape) := [(.ex 0, ⟨[(0, .one (.d .str)), (9, .one (.own 200000)), (10, .one (.d (.int .i64)))], [(200000, .lst 9 .str false)]⟩)]
noncomputable def cx86_0 : Cx := ⟨Tryd.prog, [e90, e91], [31], 66, [], []⟩
noncomputable def B86_0 : sh86_0.D → Option (sh86_0.D ⊕ OutsD os86_0) := round cx86_0 (sub [1, 1, 1, 1, 1, 1, 1, 1, 0, 0, 0] b86) sh86_0 os86_0
noncomputable def ce86_0 : CE := ⟨sh86_0, os86_0, loop B86_0⟩
theorem okc86_0 : CEOK Tryd.prog 66 (.loop (sub [1, 1, 1, 1, 1, 1, 1, 1, 0, 0, 0] b86)) ce86_0 := round_ok (cx := cx86_0) (fun R => step_sound (all_fe (P := Tryd.prog) (l := [e90, e91]) ⟨ok90, ok91, trivial⟩) R) (needs_of (l := []) (by kernel_rfl) trivial) sh86_0 os86_0
noncomputable def cx86 : Cx := ⟨Tryd.prog, [e90, e91], [31], 66, [(22, ce86_0)], [200000]⟩
noncomputable def F86 : sh86.D → Option out86.D := func cx86 Tryd.f86 b86 sh86 out86
noncomputable def e86 : FE := ⟨86, sh86, out86, F86⟩
theorem ok86 : FEOK Tryd.prog e86 := func_ok (cx := cx86) (fn := Tryd.f86) (c := b86) (all_fe (P := Tryd.prog) (l := [e90, e91]) ⟨ok90, ok91, trivial⟩) (by kernel_rfl) (by kernel_rfl) (by kernel_rfl) (by kernel_rfl) (by kernel_rfl) (needs_of (l := [((.loop (sub [1, 1, 1, 1, 1, 1, 1, 1, 0, 0, 0] b86)), ce86_0)]) (by kernel_rfl) ⟨okc86_0, trivial⟩)
@[reducible] def sh80 : Shape := ⟨[(0, .one (.d .str)), (1, .one (.d .str))], []⟩
@[reducible] def out80 : Shape := ⟨[(0, .one (.d (.list .str)))], []⟩
noncomputable def b80 : Code := Tryd.f80.body.getD .skip
noncomputable def cx80 : Cx := ⟨Tryd.prog, [e86], [], 8, [], []⟩
noncomputable def F80 : sh80.D → Option out80.D := func cx80 Tryd.f80 b80 sh80 out80
noncomputable def e80 : FE := ⟨80, sh80, out80, F80⟩
theorem ok80 : FEOK Tryd.prog e80 := func_ok (cx := cx80) (fn := Tryd.f80) (c := b80) (all_fe (P := Tryd.prog) (l := [e86]) ⟨ok86, trivial⟩) (by kernel_rfl) (by kernel_rfl) (by kernel_rfl) (by kernel_rfl) (by kernel_rfl) (needs_of (l := []) (by kernel_rfl) trivial)
@[reducible] def sh63 : Shape := ⟨[(0, .one (.d .str)), (1, .one (.d .str))], []⟩
@[reducible] def out63 : Shape := ⟨[(0, .one (.d (.int .i64)))], []⟩
noncomputable def b63 : Code := Tryd.f63.body.getD .skip
noncomputable def cx63 : Cx := ⟨Tryd.prog, [e79, e80], [], 20, [], []⟩
noncomputable def F63 : sh63.D → Option out63.D := func cx63 Tryd.f63 b63 sh63 out63
noncomputable def e63 : FE := ⟨63, sh63, out63, F63⟩
theorem ok63 : FEOK Tryd.prog e63 := func_ok (cx := cx63) (fn := Tryd.f63) (c := b63) (all_fe (P := Tryd.prog) (l := [e79, e80]) ⟨ok79, ok80, trivial⟩) (by kernel_rfl) (by kernel_rfl) (by kernel_rfl) (by kernel_rfl) (by kernel_rfl) (needs_of (l := []) (by kernel_rfl) trivial)
@[reducible] def sh39 : Shape := ⟨[(0, .row [.d (.int .i64), .d (.int .i64), .d (.int .i64), .d .str]), (1, .row [.d (.int .i64), .d (.int .i64), .d (.int .i64), .d .str])], []⟩
@[reducible] def out39 : Shape := ⟨[(0, .one (.d (.int .i64)))], []⟩
noncomputable def b39 : Code := Tryd.f39.body.getD .skip
noncomputable def cx39 : Cx := ⟨Tryd.prog, [e61, e62, e63], [], 27, [], []⟩
noncomputable def F39 : sh39.D → Option out39.D := func cx39 Tryd.f39 b39 sh39 out39
noncomputable def e39 : FE := ⟨39, sh39, out39, F39⟩
theorem ok39 : FEOK Tryd.prog e39 := func_ok (cx := cx39) (fn := Tryd.f39) (c := b39) (all_fe (P := Tryd.prog) (l := [e61, e62, e63]) ⟨ok61, ok62, ok63, trivial⟩) (by kernel_rfl) (by kernel_rfl) (by kernel_rfl) (by kernel_rfl) (by kernel_rfl) (needs_of (l := []) (by kernel_rfl) trivial)
@[reducible] def sh48 : Shape := ⟨[(0, .row [.d (.int .i64), .d (.int .i64), .d (.int .i64), .d .str]), (1, .one (.ptr 100000 0)), (2, .one (.ptr 100001 0))], [(100000, .box [.d .str, .d (.int .i64), .d (.int .i64), .d (.int .i64), .d .str]), (100001, .box [.d .str, .d (.list r0), .d (.list r0), .d (.list r4), .d (.list r2), .d (.list r3)])]⟩
@[reducible] def out48 : Shape := ⟨[(0, .one (.d .bool))], [(100000, .box [.d .str, .d (.int .i64), .d (.int .i64), .d (.int .i64), .d .str]), (100001, .box [.d .str, .d (.list r0), .d (.list r0), .d (.list r4), .d (.list r2), .d (.list r3)])]⟩
noncomputable def b48 : Code := Tryd.f48.body.getD .skip
noncomputable def cx48 : Cx := ⟨Tryd.prog, [e39, e45], [], 19, [], []⟩
noncomputable def F48 : sh48.D → Option out48.D := func cx48 Tryd.f48 b48 sh48 out48
noncomputable def e48 : FE := ⟨48, sh48, out48, F48⟩
theorem ok48 : FEOK Tryd.prog e48 := func_ok (cx := cx48) (fn := Tryd.f48) (c := b48) (all_fe (P := Tryd.prog) (l := [e39, e45]) ⟨ok39, ok45, trivial⟩) (by kernel_rfl) (by kernel_rfl) (by kernel_rfl) (by kernel_rfl) (by kernel_rfl) (needs_of (l := []) (by kernel_rfl) trivial)
@[reducible] def sh70 : Shape := ⟨[(0, .one (.own 100000)), (1, .one (.clo 48 [some (100001, 0), some (100002, 0)]))], [(100000, .lst 34 r5 false), (100001, .box [.d .str, .d (.int .i64), .d (.int .i64), .d (.int .i64), .d .str]), (100002, .box [.d .str, .d (.list r0), .d (.list r0), .d (.list r4), .d (.list r2), .d (.list r3)])]⟩
@[reducible] def out70 : Shape := ⟨[(0, .one (.d (.int .i64)))], [(100000, .lst 34 r5 false), (100001, .box [.d .str, .d (.int .i64), .d (.int .i64), .d (.int .i64), .d .str]), (100002, .box [.d .str, .d (.list r0), .d (.list r0), .d (.list r4), .d (.list r2), .d (.list r3)])]⟩
noncomputable def b70 : Code := Tryd.f70.body.getD .skip
@[reducible] def sh70_0 : Shape := ⟨[(0, .one (.own 100000)), (1, .one (.clo 48 [some (100001, 0), some (100002, 0)])), (7, .one (.d (.int .i64))), (8, .one (.d (.int .i64)))], [(100000, .lst 34 r5 false), (100001, .box [.d .str, .d (.int .i64), .d (.int .i64), .d (.int .i64), .d .str]), (100002, .box [.d .str, .d (.list r0), .d (.list r0), .d (.list r4), .d (.list r2), .d (.list r3)])]⟩
@[reducible] def os70_0 : List (XE × Shape) := [(.ret, ⟨[(4, .one (.d (.int .i64)))], [(100000, .lst 34 r5 false), (100001, .box [.d .str, .d (.int .i64), .d (.int .i64), .d (.int .i64), .d .str]), (100002, .box [.d .str, .d (.list r0), .d (.list r0), .d (.list r4), .d (.list r2), .d (.list r3)])]⟩), (.ex 0, ⟨[], [(100000, .lst 34 r5 false), (100001, .box [.d .str, .d (.int .i64), .d (.int .i64), .d (.int .i64), .d .str]), (100002, .box [.d .str, .d (.list r0), .d (.list r0), .d (.list r4), .d (.list r2), .d (.list r3)])]⟩)]
noncomputable def cx70_0 : Cx := ⟨Tryd.prog, [e48], [], 19, [], []⟩
noncomputable def B70_0 : sh70_0.D → Option (sh70_0.D ⊕ OutsD os70_0) := round cx70_0 (sub [1, 0, 1, 0, 0] b70) sh70_0 os70_0
noncomputable def ce70_0 : CE := ⟨sh70_0, os70_0, loop B70_0⟩
theorem okc70_0 : CEOK Tryd.prog 19 (.loop (sub [1, 0, 1, 0, 0] b70)) ce70_0 := round_ok (cx := cx70_0) (fun R => step_sound (all_fe (P := Tryd.prog) (l := [e48]) ⟨ok48, trivial⟩) R) (needs_of (l := []) (by kernel_rfl) trivial) sh70_0 os70_0
noncomputable def cx70 : Cx := ⟨Tryd.prog, [e48], [], 19, [(4, ce70_0)], []⟩
noncomputable def F70 : sh70.D → Option out70.D := func cx70 Tryd.f70 b70 sh70 out70
noncomputable def e70 : FE := ⟨70, sh70, out70, F70⟩
theorem ok70 : FEOK Tryd.prog e70 := func_ok (cx := cx70) (fn := Tryd.f70) (c := b70) (all_fe (P := Tryd.prog) (l := [e48]) ⟨ok48, trivial⟩) (by kernel_rfl) (by kernel_rfl) (by kernel_rfl) (by kernel_rfl) (by kernel_rfl) (needs_of (l := [((.loop (sub [1, 0, 1, 0, 0] b70)), ce70_0)]) (by kernel_rfl) ⟨okc70_0, trivial⟩)
@[reducible] def sh46 : Shape := ⟨[(0, .one (.own 100000)), (1, .one (.clo 48 [some (100001, 0), some (100002, 0)]))], [(100000, .lst 34 r5 false), (100001, .box [.d .str, .d (.int .i64), .d (.int .i64), .d (.int .i64), .d .str]), (100002, .box [.d .str, .d (.list r0), .d (.list r0), .d (.list r4), .d (.list r2), .d (.list r3)])]⟩
@[reducible] def out46 : Shape := ⟨[(0, .one (.d (.list r5)))], [(100000, .lst 34 r5 true), (100001, .box [.d .str, .d (.int .i64), .d (.int .i64), .d (.int .i64), .d .str]), (100002, .box [.d .str, .d (.list r0), .d (.list r0), .d (.list r4), .d (.list r2), .d (.list r3)])]⟩
noncomputable def b46 : Code := Tryd.f46.body.getD .skip
@[reducible] def sh46_0 : Shape := ⟨[(0, .one (.own 100000)), (1, .one (.clo 48 [some (100001, 0), some (100002, 0)])), (5, .one (.d (.int .i64))), (6, .one (.d (.int .i64)))], [(100000, .lst 34 r5 false), (100001, .box [.d .str, .d (.int .i64), .d (.int .i64), .d (.int .i64), .d .str]), (100002, .box [.d .str, .d (.list r0), .d (.list r0), .d (.list r4), .d (.list r2), .d (.list r3)])]⟩
@[reducible] def os46_0 : List (XE × Shape) := [(.ex 0, ⟨[(0, .one (.own 100000)), (5, .one (.d (.int .i64)))], [(100000, .lst 34 r5 false), (100001, .box [.d .str, .d (.int .i64), .d (.int .i64), .d (.int .i64), .d .str]), (100002, .box [.d .str, .d (.list r0), .d (.list r0), .d (.list r4), .d (.list r2), .d (.list r3)])]⟩)]
noncomputable def cx46_0 : Cx := ⟨Tryd.prog, [e48, e70], [], 42, [], []⟩
noncomputable def B46_0 : sh46_0.D → Option (sh46_0.D ⊕ OutsD os46_0) := round cx46_0 (sub [1, 1, 1, 0, 1, 0, 0] b46) sh46_0 os46_0
noncomputable def ce46_0 : CE := ⟨sh46_0, os46_0, loop B46_0⟩
theorem okc46_0 : CEOK Tryd.prog 42 (.loop (sub [1, 1, 1, 0, 1, 0, 0] b46)) ce46_0 := round_ok (cx := cx46_0) (fun R => step_sound (all_fe (P := Tryd.prog) (l := [e48, e70]) ⟨ok48, ok70, trivial⟩) R) (needs_of (l := []) (by kernel_rfl) trivial) sh46_0 os46_0
noncomputable def cx46 : Cx := ⟨Tryd.prog, [e48, e70], [], 42, [(10, ce46_0)], [100000]⟩
noncomputable def F46 : sh46.D → Option out46.D := func cx46 Tryd.f46 b46 sh46 out46
noncomputable def e46 : FE := ⟨46, sh46, out46, F46⟩
theorem ok46 : FEOK Tryd.prog e46 := func_ok (cx := cx46) (fn := Tryd.f46) (c := b46) (all_fe (P := Tryd.prog) (l := [e48, e70]) ⟨ok48, ok70, trivial⟩) (by kernel_rfl) (by kernel_rfl) (by kernel_rfl) (by kernel_rfl) (by kernel_rfl) (needs_of (l := [((.loop (sub [1, 1, 1, 0, 1, 0, 0] b46)), ce46_0)]) (by kernel_rfl) ⟨okc46_0, trivial⟩)
@[reducible] def sh47 : Shape := ⟨[(0, .row [.d (.list r2), .d (.list r3)]), (1, .one (.d .str))], []⟩
@[reducible] def out47 : Shape := ⟨[(0, .one (.own 200000))], [(200000, .lst 34 r5 false)]⟩
noncomputable def b47 : Code := Tryd.f47.body.getD .skip
@[reducible] def sh47_0 : Shape := ⟨[(7, .one (.own 200000)), (22, .one (.d (.list r1))), (23, .one (.d (.int .i64))), (24, .one (.d (.int .i64)))], [(200000, .lst 34 r5 false)]⟩
@[reducible] def os47_0 : List (XE × Shape) := [(.ex 0, ⟨[(7, .one (.own 200000))], [(200000, .lst 34 r5 false)]⟩)]
noncomputable def cx47_0 : Cx := ⟨Tryd.prog, [e67], [0, 1, 2, 3, 4, 5, 6, 7, 8, 9, 10, 11, 12, 13, 14, 15, 16, 17, 18, 19, 20, 21, 22, 23, 24, 25, 26, 27, 28, 29, 30, 31, 32, 33, 34], 35, [], []⟩
noncomputable def B47_0 : sh47_0.D → Option (sh47_0.D ⊕ OutsD os47_0) := round cx47_0 (sub [1, 1, 1, 0, 1, 0, 0] b47) sh47_0 os47_0
noncomputable def ce47_0 : CE := ⟨sh47_0, os47_0, loop B47_0⟩
theorem okc47_0 : CEOK Tryd.prog 35 (.loop (sub [1, 1, 1, 0, 1, 0, 0] b47)) ce47_0 := round_ok (cx := cx47_0) (fun R => step_sound (all_fe (P := Tryd.prog) (l := [e67]) ⟨ok67, trivial⟩) R) (needs_of (l := []) (by kernel_rfl) trivial) sh47_0 os47_0
noncomputable def cx47 : Cx := ⟨Tryd.prog, [e67], [0, 1, 2, 3, 4, 5, 6, 7, 8, 9, 10, 11, 12, 13, 14, 15, 16, 17, 18, 19, 20, 21, 22, 23, 24, 25, 26, 27, 28, 29, 30, 31, 32, 33, 34], 35, [(8, ce47_0)], []⟩
noncomputable def F47 : sh47.D → Option out47.D := func cx47 Tryd.f47 b47 sh47 out47
noncomputable def e47 : FE := ⟨47, sh47, out47, F47⟩
theorem ok47 : FEOK Tryd.prog e47 := func_ok (cx := cx47) (fn := Tryd.f47) (c := b47) (all_fe (P := Tryd.prog) (l := [e67]) ⟨ok67, trivial⟩) (by kernel_rfl) (by kernel_rfl) (by kernel_rfl) (by kernel_rfl) (by kernel_rfl) (needs_of (l := [((.loop (sub [1, 1, 1, 0, 1, 0, 0] b47)), ce47_0)]) (by kernel_rfl) ⟨okc47_0, trivial⟩)
@[reducible] def sh71 : Shape := ⟨[(0, .one (.d (.list r5))), (1, .one (.fn 39))], []⟩
@[reducible] def out71 : Shape := ⟨[(0, .row [.d (.int .i64), .d (.int .i64), .d (.int .i64), .d .str])], []⟩
noncomputable def b71 : Code := Tryd.f71.body.getD .skip
@[reducible] def sh71_0 : Shape := ⟨[(0, .one (.d (.list r5))), (1, .one (.fn 39)), (4, .one (.ptr 200000 0)), (5, .one (.ptr 200001 0)), (6, .one (.d (.int .i64)))], [(200000, .box [.d (.int .i64), .d (.int .i64), .d (.int .i64), .d .str]), (200001, .box [.d (.int .i64), .d (.int .i64), .d (.int .i64), .d .str])]⟩
@[reducible] def os71_0 : List (XE × Shape) := [(.ex 0, ⟨[(4, .one (.ptr 200000 0)), (5, .one (.ptr 200001 0))], [(200000, .box [.d (.int .i64), .d (.int .i64), .d (.int .i64), .d .str]), (200001, .box [.d (.int .i64), .d (.int .i64), .d (.int .i64), .d .str])]⟩)]
noncomputable def cx71_0 : Cx := ⟨Tryd.prog, [e39], [], 33, [], []⟩
noncomputable def B71_0 : sh71_0.D → Option (sh71_0.D ⊕ OutsD os71_0) := round cx71_0 (sub [1, 1, 1, 0, 1, 0, 0] b71) sh71_0 os71_0
noncomputable def ce71_0 : CE := ⟨sh71_0, os71_0, loop B71_0⟩
theorem okc71_0 : CEOK Tryd.prog 33 (.loop (sub [1, 1, 1, 0, 1, 0, 0] b71)) ce71_0 := round_ok (cx := cx71_0) (fun R => step_sound (all_fe (P := Tryd.prog) (l := [e39]) ⟨ok39, trivial⟩) R) (needs_of (l := []) (by kernel_rfl) trivial) sh71_0 os71_0
noncomputable def cx71 : Cx := ⟨Tryd.prog, [e39], [], 33, [(10, ce71_0)], []⟩
noncomputable def F71 : sh71.D → Option out71.D := func cx71 Tryd.f71 b71 sh71 out71
noncomputable def e71 : FE := ⟨71, sh71, out71, F71⟩
theorem ok71 : FEOK Tryd.prog e71 := func_ok (cx := cx71) (fn := Tryd.f71) (c := b71) (all_fe (P := Tryd.prog) (l := [e39]) ⟨ok39, trivial⟩) (by kernel_rfl) (by kernel_rfl) (by kernel_rfl) (by kernel_rfl) (by kernel_rfl) (needs_of (l := [((.loop (sub [1, 1, 1, 0, 1, 0, 0] b71)), ce71_0)]) (by kernel_rfl) ⟨okc71_0, trivial⟩)
@[reducible] def sh49 : Shape := ⟨[(0, .one (.d (.list r5)))], []⟩
@[reducible] def out49 : Shape := ⟨[(0, .row [.d (.int .i64), .d (.int .i64), .d (.int .i64), .d .str])], []⟩
noncomputable def b49 : Code := Tryd.f49.body.getD .skip
noncomputable def cx49 : Cx := ⟨Tryd.prog, [e71], [], 9, [], []⟩
noncomputable def F49 : sh49.D → Option out49.D := func cx49 Tryd.f49 b49 sh49 out49
noncomputable def e49 : FE := ⟨49, sh49, out49, F49⟩
theorem ok49 : FEOK Tryd.prog e49 := func_ok (cx := cx49) (fn := Tryd.f49) (c := b49) (all_fe (P := Tryd.prog) (l := [e71]) ⟨ok71, trivial⟩) (by kernel_rfl) (by kernel_rfl) (by kernel_rfl) (by kernel_rfl) (by kernel_rfl) (needs_of (l := []) (by kernel_rfl) trivial)
@[reducible] def sh35 : Shape := ⟨[(0, .row [.d .str, .d (.list r0), .d (.list r0), .d (.list r4), .d (.list r2), .d (.list r3)]), (1, .row [.d .str, .d (.int .i64), .d (.int .i64), .d (.int .i64), .d .str])], []⟩
@[reducible] def out35 : Shape := ⟨[(0, .row [.d .str, .d (.int .i64), .d (.int .i64), .d (.int .i64), .d .str]), (1, .one (.d .bool)), (2, .one (.d (.int .i64)))], []⟩
noncomputable def b35 : Code := Tryd.f35.body.getD .skip
noncomputable def cx35 : Cx := ⟨Tryd.prog, [e28, e29, e45, e46, e47, e49], [], 67, [], []⟩
noncomputable def F35 : sh35.D → Option out35.D := func cx35 Tryd.f35 b35 sh35 out35
noncomputable def e35 : FE := ⟨35, sh35, out35, F35⟩
theorem ok35 : FEOK Tryd.prog e35 := func_ok (cx := cx35) (fn := Tryd.f35) (c := b35) (all_fe (P := Tryd.prog) (l := [e28, e29, e45, e46, e47, e49]) ⟨ok28, ok29, ok45, ok46, ok47, ok49, trivial⟩) (by kernel_rfl) (by kernel_rfl) (by kernel_rfl) (by kernel_rfl) (by kernel_rfl) (needs_of (l := []) (by kernel_rfl) trivial)
@[reducible] def sh23 : Shape := ⟨[(0, .row [.d .str, .d (.list r0), .d (.list r0), .d (.list r4), .d (.list r2), .d (.list r3)]), (1, .one (.d (.list r0)))], []⟩
@[reducible] def out23 : Shape := ⟨[(0, .one (.own 200000)), (1, .one (.d (.int .i64)))], [(200000, .lst 39 r0 false)]⟩
noncomputable def b23 : Code := Tryd.f23.body.getD .skip
@[reducible] def sh23_0 : Shape := ⟨[(2, .one (.ptr 200000 0)), (6, .one (.own 200001)), (12, .one (.d (.list r0))), (13, .one (.d (.int .i64))), (14, .one (.d (.int .i64)))], [(200000, .box [.d .str, .d (.list r0), .d (.list r0), .d (.list r4), .d (.list r2), .d (.list r3)]), (200001, .lst 39 r0 false)]⟩
@[reducible] def os23_0 : List (XE × Shape) := [(.ret, ⟨[(4, .one (.nilS)), (5, .one (.d (.int .i64)))], []⟩), (.ex 0, ⟨[(6, .one (.own 200000))], [(200000, .lst 39 r0 false)]⟩)]
noncomputable def cx23_0 : Cx := ⟨Tryd.prog, [e35], [0, 1, 2, 3, 4, 5, 6, 7, 8, 9, 10, 11, 12, 13, 14, 15, 16, 17, 18, 19, 20, 21, 22, 23, 24, 25, 26, 27, 28, 29, 30, 31, 32, 33, 34], 35, [], []⟩
noncomputable def B23_0 : sh23_0.D → Option (sh23_0.D ⊕ OutsD os23_0) := round cx23_0 (sub [1, 1, 0, 1, 0, 0] b23) sh23_0 os23_0
noncomputable def ce23_0 : CE := ⟨sh23_0, os23_0, loop B23_0⟩
theorem okc23_0 : CEOK Tryd.prog 35 (.loop (sub [1, 1, 0, 1, 0, 0] b23)) ce23_0 := round_ok (cx := cx23_0) (fun R => step_sound (all_fe (P := Tryd.prog) (l := [e35]) ⟨ok35, trivial⟩) R) (needs_of (l := []) (by kernel_rfl) trivial) sh23_0 os23_0
noncomputable def cx23 : Cx := ⟨Tryd.prog, [e35], [0, 1, 2, 3, 4, 5, 6, 7, 8, 9, 10, 11, 12, 13, 14, 15, 16, 17, 18, 19, 20, 21, 22, 23, 24, 25, 26, 27, 28, 29, 30, 31, 32, 33, 34], 35, [(6, ce23_0)], []⟩
noncomputable def F23 : sh23.D → Option out23.D := func cx23 Tryd.f23 b23 sh23 out23
noncomputable def e23 : FE := ⟨23, sh23, out23, F23⟩
theorem ok23 : FEOK Tryd.prog e23 := func_ok (cx := cx23) (fn := Tryd.f23) (c := b23) (all_fe (P := Tryd.prog) (l := [e35]) ⟨ok35, trivial⟩) (by kernel_rfl) (by kernel_rfl) (by kernel_rfl) (by kernel_rfl) (by kernel_rfl) (needs_of (l := [((.loop (sub [1, 1, 0, 1, 0, 0] b23)), ce23_0)]) (by kernel_rfl) ⟨okc23_0, trivial⟩)
@[reducible] def sh60 : Shape := ⟨[(0, .one (.d .str)), (1, .one (.d .str))], []⟩
@[reducible] def out60 : Shape := ⟨[(0, .one (.d (.int .i64)))], []⟩
noncomputable def b60 : Code := Tryd.f60.body.getD .skip
noncomputable def cx60 : Cx := ⟨Tryd.prog, [e77], [], 8, [], []⟩
noncomputable def F60 : sh60.D → Option out60.D := func cx60 Tryd.f60 b60 sh60 out60
noncomputable def e60 : FE := ⟨60, sh60, out60, F60⟩
theorem ok60 : FEOK Tryd.prog e60 := func_ok (cx := cx60) (fn := Tryd.f60) (c := b60) (all_fe (P := Tryd.prog) (l := [e77]) ⟨ok77, trivial⟩) (by kernel_rfl) (by kernel_rfl) (by kernel_rfl) (by kernel_rfl) (by kernel_rfl) (needs_of (l := []) (by kernel_rfl) trivial)
@[reducible] def sh38 : Shape := ⟨[(0, .one (.d .str)), (1, .one (.d .str))], []⟩
@[reducible] def out38 : Shape := ⟨[(0, .one (.d (.int .i64)))], []⟩
noncomputable def b38 : Code := Tryd.f38.body.getD .skip
noncomputable def cx38 : Cx := ⟨Tryd.prog, [e60], [], 8, [], []⟩
noncomputable def F38 : sh38.D → Option out38.D := func cx38 Tryd.f38 b38 sh38 out38
noncomputable def e38 : FE := ⟨38, sh38, out38, F38⟩
theorem ok38 : FEOK Tryd.prog e38 := func_ok (cx := cx38) (fn := Tryd.f38) (c := b38) (all_fe (P := Tryd.prog) (l := [e60]) ⟨ok60, trivial⟩) (by kernel_rfl) (by kernel_rfl) (by kernel_rfl) (by kernel_rfl) (by kernel_rfl) (needs_of (l := []) (by kernel_rfl) trivial)
@[reducible] def sh25 : Shape := ⟨[(0, .row [.d .str, .d (.int .i64), .d (.int .i64), .d (.int .i64), .d .str]), (1, .row [.d .str, .d (.int .i64), .d (.int .i64), .d (.int .i64), .d .str])], []⟩
@[reducible] def out25 : Shape := ⟨[(0, .one (.d (.int .i64)))], []⟩
noncomputable def b25 : Code := Tryd.f25.body.getD .skip
noncomputable def cx25 : Cx := ⟨Tryd.prog, [e38, e39], [], 19, [], []⟩
noncomputable def F25 : sh25.D → Option out25.D := func cx25 Tryd.f25 b25 sh25 out25
noncomputable def e25 : FE := ⟨25, sh25, out25, F25⟩
theorem ok25 : FEOK Tryd.prog e25 := func_ok (cx := cx25) (fn := Tryd.f25) (c := b25) (all_fe (P := Tryd.prog) (l := [e38, e39]) ⟨ok38, ok39, trivial⟩) (by kernel_rfl) (by kernel_rfl) (by kernel_rfl) (by kernel_rfl) (by kernel_rfl) (needs_of (l := []) (by kernel_rfl) trivial)
@[reducible] def sh30 : Shape := ⟨[(0, .one (.d (.list r0)))], []⟩
@[reducible] def out30 : Shape := ⟨[(0, .one (.d (.list r0)))], []⟩
noncomputable def b30 : Code := Tryd.f30.body.getD .skip
noncomputable def cx30 : Cx := ⟨Tryd.prog, [], [], 9, [], []⟩
noncomputable def F30 : sh30.D → Option out30.D := func cx30 Tryd.f30 b30 sh30 out30
noncomputable def e30 : FE := ⟨30, sh30, out30, F30⟩
theorem ok30 : FEOK Tryd.prog e30 := func_ok (cx := cx30) (fn := Tryd.f30) (c := b30) (all_fe (P := Tryd.prog) (l := []) trivial) (by kernel_rfl) (by kernel_rfl) (by kernel_rfl) (by kernel_rfl) (by kernel_rfl) (needs_of (l := []) (by kernel_rfl) trivial)
@[reducible] def sh31 : Shape := ⟨[(0, .one (.own 100000))], [(100000, .lst 39 r0 false)]⟩
@[reducible] def out31 : Shape := ⟨[(0, .one (.d (.list r0)))], [(100000, .lst 39 r0 true)]⟩
noncomputable def b31 : Code := Tryd.f31.body.getD .skip
@[reducible] def sh31_0 : Shape := ⟨[(0, .one (.own 100000)), (3, .one (.d (.int .i64))), (4, .one (.os 100000 5)), (5, .one (.d (.int .i64)))], [(100000, .lst 39 r0 false)]⟩
@[reducible] def os31_0 : List (XE × Shape) := [(.ex 2, ⟨[(0, .one (.own 100000)), (3, .one (.d (.int .i64)))], [(100000, .lst 39 r0 false)]⟩)]
noncomputable def cx31_0 : Cx := ⟨Tryd.prog, [], [], 61, [], []⟩
noncomputable def B31_0 : sh31_0.D → Option (sh31_0.D ⊕ OutsD os31_0) := round cx31_0 (sub [1, 1, 0, 1, 0, 0, 1, 0, 0, 1, 0, 1, 0, 1, 0, 0] b31) sh31_0 os31_0
noncomputable def ce31_0 : CE := ⟨sh31_0, os31_0, loop B31_0⟩
theorem okc31_0 : CEOK Tryd.prog 61 (.loop (sub [1, 1, 0, 1, 0, 0, 1, 0, 0, 1, 0, 1, 0, 1, 0, 0] b31)) ce31_0 := round_ok (cx := cx31_0) (fun R => step_sound (all_fe (P := Tryd.prog) (l := []) trivial) R) (needs_of (l := []) (by kernel_rfl) trivial) sh31_0 os31_0
@[reducible] def sh31_1 : Shape := ⟨[(0, .one (.own 100000)), (3, .one (.d (.int .i64)))], [(100000, .lst 39 r0 false)]⟩
@[reducible] def os31_1 : List (XE × Shape) := [(.ret, ⟨[(2, .one (.os 100000 5))], [(100000, .lst 39 r0 false)]⟩), (.ex 0, ⟨[(0, .one (.own 100000))], [(100000, .lst 39 r0 false)]⟩)]
noncomputable def cx31_1 : Cx := ⟨Tryd.prog, [], [], 61, [(18, ce31_0)], []⟩
noncomputable def B31_1 : sh31_1.D → Option (sh31_1.D ⊕ OutsD os31_1) := round cx31_1 (sub [1, 1, 0, 1, 0, 0] b31) sh31_1 os31_1
noncomputable def ce31_1 : CE := ⟨sh31_1, os31_1, loop B31_1⟩
theorem okc31_1 : CEOK Tryd.prog 61 (.loop (sub [1, 1, 0, 1, 0, 0] b31)) ce31_1 := round_ok (cx := cx31_1) (fun R => step_sound (all_fe (P := Tryd.prog) (l := []) trivial) R) (needs_of (l := [((.loop (sub [1, 1, 0, 1, 0, 0, 1, 0, 0, 1, 0, 1, 0, 1, 0, 0] b31)), ce31_0)]) (by kernel_rfl) ⟨okc31_0, trivial⟩) sh31_1 os31_1
noncomputable def cx31 : Cx := ⟨Tryd.prog, [], [], 61, [(18, ce31_0), (8, ce31_1)], [100000]⟩
noncomputable def F31 : sh31.D → Option out31.D := func cx31 Tryd.f31 b31 sh31 out31
noncomputable def e31 : FE := ⟨31, sh31, out31, F31⟩
theorem ok31 : FEOK Tryd.prog e31 := func_ok (cx := cx31) (fn := Tryd.f31) (c := b31) (all_fe (P := Tryd.prog) (l := []) trivial) (by kernel_rfl) (by kernel_rfl) (by kernel_rfl) (by kernel_rfl) (by kernel_rfl) (needs_of (l := [((.loop (sub [1, 1, 0, 1, 0, 0] b31)), ce31_1)]) (by kernel_rfl) ⟨okc31_1, trivial⟩)
@[reducible] def sh33 : Shape := ⟨[(0, .one (.d (.list r0)))], []⟩
@[reducible] def out33 : Shape := ⟨[(0, .one (.clo 44 [some (200000, 0)]))], [(200000, .box [.d (.list r0)])]⟩
noncomputable def b33 : Code := Tryd.f33.body.getD .skip
noncomputable def cx33 : Cx := ⟨Tryd.prog, [], [], 4, [], []⟩
noncomputable def F33 : sh33.D → Option out33.D := func cx33 Tryd.f33 b33 sh33 out33
noncomputable def e33 : FE := ⟨33, sh33, out33, F33⟩
theorem ok33 : FEOK Tryd.prog e33 := func_ok (cx := cx33) (fn := Tryd.f33) (c := b33) (all_fe (P := Tryd.prog) (l := []) trivial) (by kernel_rfl) (by kernel_rfl) (by kernel_rfl) (by kernel_rfl) (by kernel_rfl) (needs_of (l := []) (by kernel_rfl) trivial)
@[reducible] def sh34 : Shape := ⟨[(0, .one (.d (.list r6)))], []⟩
@[reducible] def out34 : Shape := ⟨[(0, .one (.d (.list r6)))], []⟩
noncomputable def b34 : Code := Tryd.f34.body.getD .skip
noncomputable def cx34 : Cx := ⟨Tryd.prog, [], [], 8, [], []⟩
noncomputable def F34 : sh34.D → Option out34.D := func cx34 Tryd.f34 b34 sh34 out34
noncomputable def e34 : FE := ⟨34, sh34, out34, F34⟩
theorem ok34 : FEOK Tryd.prog e34 := func_ok (cx := cx34) (fn := Tryd.f34) (c := b34) (all_fe (P := Tryd.prog) (l := []) trivial) (by kernel_rfl) (by kernel_rfl) (by kernel_rfl) (by kernel_rfl) (by kernel_rfl) (needs_of (l := []) (by kernel_rfl) trivial)
@[reducible] def sh13 : Shape := ⟨[(0, .one (.d (.int .i64))), (1, .one (.d (.int .i64)))], []⟩
@[reducible] def out13 : Shape := ⟨[(0, .one (.d (.int .i64)))], []⟩
noncomputable def b13 : Code := Tryd.f13.body.getD .skip
noncomputable def cx13 : Cx := ⟨Tryd.prog, [], [], 15, [], []⟩
noncomputable def F13 : sh13.D → Option out13.D := func cx13 Tryd.f13 b13 sh13 out13
noncomputable def e13 : FE := ⟨13, sh13, out13, F13⟩
theorem ok13 : FEOK Tryd.prog e13 := func_ok (cx := cx13) (fn := Tryd.f13) (c := b13) (all_fe (P := Tryd.prog) (l := []) trivial) (by kernel_rfl) (by kernel_rfl) (by kernel_rfl) (by kernel_rfl) (by kernel_rfl) (needs_of (l := []) (by kernel_rfl) trivial)
@[reducible] def sh14 : Shape := ⟨[], []⟩
@[reducible] def out14 : Shape := ⟨[(0, .one (.d (.list .str)))], []⟩
noncomputable def b14 : Code := Tryd.f14.body.getD .skip
noncomputable def cx14 : Cx := ⟨Tryd.prog, [], [], 2, [], []⟩
noncomputable def F14 : sh14.D → Option out14.D := func cx14 Tryd.f14 b14 sh14 out14
noncomputable def e14 : FE := ⟨14, sh14, out14, F14⟩
theorem ok14 : FEOK Tryd.prog e14 := func_ok (cx := cx14) (fn := Tryd.f14) (c := b14) (all_fe (P := Tryd.prog) (l := []) trivial) (by kernel_rfl) (by kernel_rfl) (by kernel_rfl) (by kernel_rfl) (by kernel_rfl) (needs_of (l := []) (by kernel_rfl) trivial)
@[reducible] def sh15 : Shape := ⟨[(0, .one (.d (.int .i64)))], []⟩
@[reducible] def out15 : Shape := ⟨[(0, .one (.d (.int .i64)))], []⟩
noncomputable def b15 : Code := Tryd.f15.body.getD .skip
noncomputable def cx15 : Cx := ⟨Tryd.prog, [], [], 7, [], []⟩
noncomputable def F15 : sh15.D → Option out15.D := func cx15 Tryd.f15 b15 sh15 out15
noncomputable def e15 : FE := ⟨15, sh15, out15, F15⟩
theorem ok15 : FEOK Tryd.prog e15 := func_ok (cx := cx15) (fn := Tryd.f15) (c := b15) (all_fe (P := Tryd.prog) (l := []) trivial) (by kernel_rfl) (by kernel_rfl) (by kernel_rfl) (by kernel_rfl) (by kernel_rfl) (needs_of (l := []) (by kernel_rfl) trivial)
@[reducible] def sh18 : Shape := ⟨[(0, .one (.d (.int .i64))), (1, .one (.d (.int .i64)))], []⟩
@[reducible] def out18 : Shape := ⟨[(0, .one (.d .str))], []⟩
noncomputable def b18 : Code := Tryd.f18.body.getD .skip
noncomputable def cx18 : Cx := ⟨Tryd.prog, [], [], 21, [], []⟩
noncomputable def F18 : sh18.D → Option out18.D := func cx18 Tryd.f18 b18 sh18 out18
noncomputable def e18 : FE := ⟨18, sh18, out18, F18⟩
theorem ok18 : FEOK Tryd.prog e18 := func_ok (cx := cx18) (fn := Tryd.f18) (c := b18) (all_fe (P := Tryd.prog) (l := []) trivial) (by kernel_rfl) (by kernel_rfl) (by kernel_rfl) (by kernel_rfl) (by kernel_rfl) (needs_of (l := []) (by kernel_rfl) trivial)
@[reducible] def sh17 : Shape := ⟨[(0, .one (.d (.int .i64)))], []⟩
@[reducible] def out17 : Shape := ⟨[(0, .one (.d .str))], []⟩
noncomputable def b17 : Code := Tryd.f17.body.getD .skip
noncomputable def cxr17 (X : sh17.D → Option out17.D) : Cx := ⟨Tryd.prog, (⟨17, sh17, out17, X⟩ :: []), [], 17, [], []⟩
noncomputable def FX17 (X : sh17.D → Option out17.D) : sh17.D → Option out17.D := func (cxr17 X) Tryd.f17 b17 sh17 out17
noncomputable def FR17 : Nat → sh17.D → Option out17.D
  | 0 => fun _ => none
  | k + 1 => FX17 (FR17 k)
noncomputable def F17 : sh17.D → Option out17.D := FR17 30
noncomputable def e17 : FE := ⟨17, sh17, out17, F17⟩
theorem okr17 : ∀ k, FEOK Tryd.prog ⟨17, sh17, out17, FR17 k⟩ := rec_ok (fun _ => rfl) fun k ih => func_ok (cx := cxr17 (FR17 k)) (fn := Tryd.f17) (c := b17) (all_fe (P := Tryd.prog) (l := ⟨17, sh17, out17, FR17 k⟩ :: []) ⟨ih, trivial⟩) (by kernel_rfl) (by kernel_rfl) (by kernel_rfl) (by kernel_rfl) (by kernel_rfl) (needs_of (l := []) (by kernel_rfl) trivial)
theorem ok17 : FEOK Tryd.prog e17 := okr17 30
@[reducible] def sh64 : Shape := ⟨[(0, .one (.d (.int .u8)))], []⟩
@[reducible] def out64 : Shape := ⟨[(0, .one (.d .bool))], []⟩
noncomputable def b64 : Code := Tryd.f64.body.getD .skip
noncomputable def cx64 : Cx := ⟨Tryd.prog, [], [], 9, [], []⟩
noncomputable def F64 : sh64.D → Option out64.D := func cx64 Tryd.f64 b64 sh64 out64
noncomputable def e64 : FE := ⟨64, sh64, out64, F64⟩
theorem ok64 : FEOK Tryd.prog e64 := func_ok (cx := cx64) (fn := Tryd.f64) (c := b64) (all_fe (P := Tryd.prog) (l := []) trivial) (by kernel_rfl) (by kernel_rfl) (by kernel_rfl) (by kernel_rfl) (by kernel_rfl) (needs_of (l := []) (by kernel_rfl) trivial)
@[reducible] def sh40 : Shape := ⟨[(0, .one (.d .str))], []⟩
@[reducible] def out40 : Shape := ⟨[(0, .one (.d .bool))], []⟩
noncomputable def b40 : Code := Tryd.f40.body.getD .skip
@[reducible] def sh40_0 : Shape := ⟨[(0, .one (.d .str)), (3, .one (.d (.int .i64)))], []⟩
@[reducible] def os40_0 : List (XE × Shape) := [(.ret, ⟨[(2, .one (.d .bool))], []⟩), (.ex 0, ⟨[(0, .one (.d .str))], []⟩)]
noncomputable def cx40_0 : Cx := ⟨Tryd.prog, [e64], [], 35, [], []⟩
noncomputable def B40_0 : sh40_0.D → Option (sh40_0.D ⊕ OutsD os40_0) := round cx40_0 (sub [1, 0, 1, 0, 0] b40) sh40_0 os40_0
noncomputable def ce40_0 : CE := ⟨sh40_0, os40_0, loop B40_0⟩
theorem okc40_0 : CEOK Tryd.prog 35 (.loop (sub [1, 0, 1, 0, 0] b40)) ce40_0 := round_ok (cx := cx40_0) (fun R => step_sound (all_fe (P := Tryd.prog) (l := [e64]) ⟨ok64, trivial⟩) R) (needs_of (l := []) (by kernel_rfl) trivial) sh40_0 os40_0
noncomputable def cx40 : Cx := ⟨Tryd.prog, [e64], [], 35, [(4, ce40_0)], []⟩
noncomputable def F40 : sh40.D → Option out40.D := func cx40 Tryd.f40 b40 sh40 out40
noncomputable def e40 : FE := ⟨40, sh40, out40, F40⟩
theorem ok40 : FEOK Tryd.prog e40 := func_ok (cx := cx40) (fn := Tryd.f40) (c := b40) (all_fe (P := Tryd.prog) (l := [e64]) ⟨ok64, trivial⟩) (by kernel_rfl) (by kernel_rfl) (by kernel_rfl) (by kernel_rfl) (by kernel_rfl) (needs_of (l := [((.loop (sub [1, 0, 1, 0, 0] b40)), ce40_0)]) (by kernel_rfl) ⟨okc40_0, trivial⟩)
@[reducible] def sh65 : Shape := ⟨[(0, .one (.d .str))], []⟩
@[reducible] def out65 : Shape := ⟨[(0, .one (.d (.list .str)))], []⟩
noncomputable def b65 : Code := Tryd.f65.body.getD .skip
@[reducible] def sh65_0 : Shape := ⟨[(0, .one (.d .str)), (3, .one (.own 200000)), (4, .one (.d (.int .i64))), (5, .one (.d (.int .i64)))], [(200000, .lst 9 .str true)]⟩
@[reducible] def os65_0 : List (XE × Shape) := [(.ex 0, ⟨[(3, .one (.own 200000))], [(200000, .lst 9 .str true)]⟩)]
noncomputable def cx65_0 : Cx := ⟨Tryd.prog, [], [], 32, [], []⟩
noncomputable def B65_0 : sh65_0.D → Option (sh65_0.D ⊕ OutsD os65_0) := round cx65_0 (sub [1, 1, 1, 0, 1, 0, 0] b65) sh65_0 os65_0
noncomputable def ce65_0 : CE := ⟨sh65_0, os65_0, loop B65_0⟩
theorem okc65_0 : CEOK Tryd.prog 32 (.loop (sub [1, 1, 1, 0, 1, 0, 0] b65)) ce65_0 := round_ok (cx := cx65_0) (fun R => step_sound (all_fe (P := Tryd.prog) (l := []) trivial) R) (needs_of (l := []) (by kernel_rfl) trivial) sh65_0 os65_0
noncomputable def cx65 : Cx := ⟨Tryd.prog, [], [], 32, [(8, ce65_0)], []⟩
noncomputable def F65 : sh65.D → Option out65.D := func cx65 Tryd.f65 b65 sh65 out65
noncomputable def e65 : FE := ⟨65, sh65, out65, F65⟩
theorem ok65 : FEOK Tryd.prog e65 := func_ok (cx := cx65) (fn := Tryd.f65) (c := b65) (all_fe (P := Tryd.prog) (l := []) trivial) (by kernel_rfl) (by kernel_rfl) (by kernel_rfl) (by kernel_rfl) (by kernel_rfl) (needs_of (l := [((.loop (sub [1, 1, 1, 0, 1, 0, 0] b65)), ce65_0)]) (by kernel_rfl) ⟨okc65_0, trivial⟩)
@[reducible] def sh82 : Shape := ⟨[(0, .one (.d .str))], []⟩
@[reducible] def out82 : Shape := ⟨[(0, .one (.d .bool))], []⟩
noncomputable def b82 : Code := Tryd.f82.body.getD .skip
@[reducible] def sh82_0 : Shape := ⟨[(0, .one (.d .str)), (3, .one (.d (.int .i64)))], []⟩
@[reducible] def os82_0 : List (XE × Shape) := [(.ret, ⟨[(2, .one (.d .bool))], []⟩), (.ex 0, ⟨[(0, .one (.d .str))], []⟩)]
noncomputable def cx82_0 : Cx := ⟨Tryd.prog, [e64], [], 17, [], []⟩
noncomputable def B82_0 : sh82_0.D → Option (sh82_0.D ⊕ OutsD os82_0) := round cx82_0 (sub [1, 0, 1, 0, 0] b82) sh82_0 os82_0
noncomputable def ce82_0 : CE := ⟨sh82_0, os82_0, loop B82_0⟩
theorem okc82_0 : CEOK Tryd.prog 17 (.loop (sub [1, 0, 1, 0, 0] b82)) ce82_0 := round_ok (cx := cx82_0) (fun R => step_sound (all_fe (P := Tryd.prog) (l := [e64]) ⟨ok64, trivial⟩) R) (needs_of (l := []) (by kernel_rfl) trivial) sh82_0 os82_0
noncomputable def cx82 : Cx := ⟨Tryd.prog, [e64], [], 17, [(4, ce82_0)], []⟩
noncomputable def F82 : sh82.D → Option out82.D := func cx82 Tryd.f82 b82 sh82 out82
noncomputable def e82 : FE := ⟨82, sh82, out82, F82⟩
theorem ok82 : FEOK Tryd.prog e82 := func_ok (cx := cx82) (fn := Tryd.f82) (c := b82) (all_fe (P := Tryd.prog) (l := [e64]) ⟨ok64, trivial⟩) (by kernel_rfl) (by kernel_rfl) (by kernel_rfl) (by kernel_rfl) (by kernel_rfl) (needs_of (l := [((.loop (sub [1, 0, 1, 0, 0] b82)), ce82_0)]) (by kernel_rfl) ⟨okc82_0, trivial⟩)
@[reducible] def sh83 : Shape := ⟨[(0, .one (.d (.int .u8)))], []⟩
@[reducible] def out83 : Shape := ⟨[(0, .one (.d .bool))], []⟩
noncomputable def b83 : Code := Tryd.f83.body.getD .skip
noncomputable def cx83 : Cx := ⟨Tryd.prog, [], [], 21, [], []⟩
noncomputable def F83 : sh83.D → Option out83.D := func cx83 Tryd.f83 b83 sh83 out83
noncomputable def e83 : FE := ⟨83, sh83, out83, F83⟩
theorem ok83 : FEOK Tryd.prog e83 := func_ok (cx := cx83) (fn := Tryd.f83) (c := b83) (all_fe (P := Tryd.prog) (l := []) trivial) (by kernel_rfl) (by kernel_rfl) (by kernel_rfl) (by kernel_rfl) (by kernel_rfl) (needs_of (l := []) (by kernel_rfl) trivial)
@[reducible] def sh66 : Shape := ⟨[(0, .one (.d .str))], []⟩
@[reducible] def out66 : Shape := ⟨[(0, .one (.d .bool))], []⟩
noncomputable def b66 : Code := Tryd.f66.body.getD .skip
@[reducible] def sh66_0 : Shape := ⟨[(0, .one (.d .str)), (3, .one (.d (.int .i64)))], []⟩
@[reducible] def os66_0 : List (XE × Shape) := [(.ret, ⟨[(2, .one (.d .bool))], []⟩), (.ex 0, ⟨[], []⟩)]
noncomputable def cx66_0 : Cx := ⟨Tryd.prog, [e64, e82, e83], [], 38, [], []⟩
noncomputable def B66_0 : sh66_0.D → Option (sh66_0.D ⊕ OutsD os66_0) := round cx66_0 (sub [1, 1, 0, 1, 0, 0] b66) sh66_0 os66_0
noncomputable def ce66_0 : CE := ⟨sh66_0, os66_0, loop B66_0⟩
theorem okc66_0 : CEOK Tryd.prog 38 (.loop (sub [1, 1, 0, 1, 0, 0] b66)) ce66_0 := round_ok (cx := cx66_0) (fun R => step_sound (all_fe (P := Tryd.prog) (l := [e64, e82, e83]) ⟨ok64, ok82, ok83, trivial⟩) R) (needs_of (l := []) (by kernel_rfl) trivial) sh66_0 os66_0
noncomputable def cx66 : Cx := ⟨Tryd.prog, [e64, e82, e83], [], 38, [(8, ce66_0)], []⟩
noncomputable def F66 : sh66.D → Option out66.D := func cx66 Tryd.f66 b66 sh66 out66
noncomputable def e66 : FE := ⟨66, sh66, out66, F66⟩
theorem ok66 : FEOK Tryd.prog e66 := func_ok (cx := cx66) (fn := Tryd.f66) (c := b66) (all_fe (P := Tryd.prog) (l := [e64, e82, e83]) ⟨ok64, ok82, ok83, trivial⟩) (by kernel_rfl) (by kernel_rfl) (by kernel_rfl) (by kernel_rfl) (by kernel_rfl) (needs_of (l := [((.loop (sub [1, 1, 0, 1, 0, 0] b66)), ce66_0)]) (by kernel_rfl) ⟨okc66_0, trivial⟩)
@[reducible] def sh41 : Shape := ⟨[(0, .row [.d (.int .i64), .d (.int .i64), .d (.int .i64), .d .str])], []⟩
@[reducible] def out41 : Shape := ⟨[(0, .one (.d .bool))], []⟩
noncomputable def b41 : Code := Tryd.f41.body.getD .skip
@[reducible] def sh41_0 : Shape := ⟨[(3, .one (.d (.list .str))), (4, .one (.d (.int .i64)))], []⟩
@[reducible] def os41_0 : List (XE × Shape) := [(.ret, ⟨[(2, .one (.d .bool))], []⟩), (.ex 0, ⟨[], []⟩)]
noncomputable def cx41_0 : Cx := ⟨Tryd.prog, [e65, e66], [], 52, [], []⟩
noncomputable def B41_0 : sh41_0.D → Option (sh41_0.D ⊕ OutsD os41_0) := round cx41_0 (sub [1, 1, 1, 1, 0, 1, 0, 0] b41) sh41_0 os41_0
noncomputable def ce41_0 : CE := ⟨sh41_0, os41_0, loop B41_0⟩
theorem okc41_0 : CEOK Tryd.prog 52 (.loop (sub [1, 1, 1, 1, 0, 1, 0, 0] b41)) ce41_0 := round_ok (cx := cx41_0) (fun R => step_sound (all_fe (P := Tryd.prog) (l := [e65, e66]) ⟨ok65, ok66, trivial⟩) R) (needs_of (l := []) (by kernel_rfl) trivial) sh41_0 os41_0
noncomputable def cx41 : Cx := ⟨Tryd.prog, [e65, e66], [], 52, [(14, ce41_0)], []⟩
noncomputable def F41 : sh41.D → Option out41.D := func cx41 Tryd.f41 b41 sh41 out41
noncomputable def e41 : FE := ⟨41, sh41, out41, F41⟩
theorem ok41 : FEOK Tryd.prog e41 := func_ok (cx := cx41) (fn := Tryd.f41) (c := b41) (all_fe (P := Tryd.prog) (l := [e65, e66]) ⟨ok65, ok66, trivial⟩) (by kernel_rfl) (by kernel_rfl) (by kernel_rfl) (by kernel_rfl) (by kernel_rfl) (needs_of (l := [((.loop (sub [1, 1, 1, 1, 0, 1, 0, 0] b41)), ce41_0)]) (by kernel_rfl) ⟨okc41_0, trivial⟩)
@[reducible] def sh27 : Shape := ⟨[(0, .one (.d .bool)), (1, .row [.d (.int .i64), .d (.int .i64), .d (.int .i64), .d .str]), (2, .one (.d (.int .i64))), (3, .one (.d .str))], []⟩
@[reducible] def out27 : Shape := ⟨[(0, .row [.d (.int .i64), .d (.int .i64), .d (.int .i64), .d .str]), (1, .one (.d .bool))], []⟩
noncomputable def b27 : Code := Tryd.f27.body.getD .skip
@[reducible] def sh27_0 : Shape := ⟨[(0, .one (.d .bool)), (3, .one (.d .str)), (5, .one (.ptr 200000 0)), (8, .one (.ptr 200001 0)), (10, .one (.d .str))], [(200000, .box [.d (.int .i64), .d (.int .i64), .d (.int .i64), .d .str]), (200001, .box [.d (.int .i64), .d (.int .i64), .d (.int .i64), .d .str])]⟩
@[reducible] def os27_0 : List (XE × Shape) := [(.ex 0, ⟨[(0, .one (.d .bool)), (3, .one (.d .str)), (5, .one (.ptr 200000 0)), (8, .one (.ptr 200001 0)), (10, .one (.d .str))], [(200000, .box [.d (.int .i64), .d (.int .i64), .d (.int .i64), .d .str]), (200001, .box [.d (.int .i64), .d (.int .i64), .d (.int .i64), .d .str])]⟩)]
noncomputable def cx27_0 : Cx := ⟨Tryd.prog, [e17, e40, e41], [], 62, [], []⟩
noncomputable def B27_0 : sh27_0.D → Option (sh27_0.D ⊕ OutsD os27_0) := round cx27_0 (sub [1, 1, 1, 0, 0, 0] b27) sh27_0 os27_0
noncomputable def ce27_0 : CE := ⟨sh27_0, os27_0, loop B27_0⟩
theorem okc27_0 : CEOK Tryd.prog 62 (.loop (sub [1, 1, 1, 0, 0, 0] b27)) ce27_0 := round_ok (cx := cx27_0) (fun R => step_sound (all_fe (P := Tryd.prog) (l := [e17, e40, e41]) ⟨ok17, ok40, ok41, trivial⟩) R) (needs_of (l := []) (by kernel_rfl) trivial) sh27_0 os27_0
noncomputable def cx27 : Cx := ⟨Tryd.prog, [e17, e40, e41], [], 62, [(8, ce27_0)], []⟩
noncomputable def F27 : sh27.D → Option out27.D := func cx27 Tryd.f27 b27 sh27 out27
noncomputable def e27 : FE := ⟨27, sh27, out27, F27⟩
theorem ok27 : FEOK Tryd.prog e27 := func_ok (cx := cx27) (fn := Tryd.f27) (c := b27) (all_fe (P := Tryd.prog) (l := [e17, e40, e41]) ⟨ok17, ok40, ok41, trivial⟩) (by kernel_rfl) (by kernel_rfl) (by kernel_rfl) (by kernel_rfl) (by kernel_rfl) (needs_of (l := [((.loop (sub [1, 1, 1, 0, 0, 0] b27)), ce27_0)]) (by kernel_rfl) ⟨okc27_0, trivial⟩)
@[reducible] def sh16 : Shape := ⟨[(0, .one (.d (.int .i64)))], []⟩
@[reducible] def out16 : Shape := ⟨[(0, .row [.d (.int .i64), .d (.int .i64), .d (.int .i64), .d .str])], []⟩
noncomputable def b16 : Code := Tryd.f16.body.getD .skip
noncomputable def cx16 : Cx := ⟨Tryd.prog, [e15, e18, e27], [], 17, [], []⟩
noncomputable def F16 : sh16.D → Option out16.D := func cx16 Tryd.f16 b16 sh16 out16
noncomputable def e16 : FE := ⟨16, sh16, out16, F16⟩
theorem ok16 : FEOK Tryd.prog e16 := func_ok (cx := cx16) (fn := Tryd.f16) (c := b16) (all_fe (P := Tryd.prog) (l := [e15, e18, e27]) ⟨ok15, ok18, ok27, trivial⟩) (by kernel_rfl) (by kernel_rfl) (by kernel_rfl) (by kernel_rfl) (by kernel_rfl) (needs_of (l := []) (by kernel_rfl) trivial)
@[reducible] def sh6 : Shape := ⟨[(0, .one (.d (.int .i64))), (1, .one (.d (.list (.int .i64)))), (2, .one (.d .bool))], []⟩
@[reducible] def out6 : Shape := ⟨[(0, .row [.d (.list r2), .d (.list r3)])], []⟩
noncomputable def b6 : Code := Tryd.f6.body.getD .skip
@[reducible] def sh6_0 : Shape := ⟨[(1, .one (.d (.list (.int .i64)))), (2, .one (.d .bool)), (6, .one (.ptr 200000 0)), (7, .one (.ptr 200001 0)), (8, .one (.d (.int .i64))), (9, .one (.d (.int .i64))), (10, .one (.d (.int .i64))), (11, .one (.d .str)), (12, .one (.d (.int .i64))), (13, .one (.own 200002)), (14, .one (.ptr 200003 0)), (15, .one (.d (.int .i64))), (16, .one (.ptr 200004 0)), (17, .one (.d (.int .i64)))], [(200000, .box [.nilS, .nilS]), (200001, .box [.own 200005, .own 200006]), (200002, .lst 34 r5 true), (200003, .box [.d .str, .own 200007]), (200004, .box [.d (.int .i64), .d (.int .i64), .d (.int .i64), .d .str, .own 200008, .d .str, .d .str]), (200005, .lst 31 r2 true), (200006, .lst 68 r3 true), (200007, .lst 37 r1 true), (200008, .lst 39 r0 true)]⟩
@[reducible] def os6_0 : List (XE × Shape) := [(.ex 4, ⟨[(1, .one (.d (.list (.int .i64)))), (2, .one (.d .bool)), (6, .one (.ptr 200000 0)), (7, .one (.ptr 200001 0)), (8, .one (.d (.int .i64))), (9, .one (.d (.int .i64))), (10, .one (.d (.int .i64))), (11, .one (.d .str)), (12, .one (.d (.int .i64))), (13, .one (.own 200002)), (14, .one (.ptr 200003 0)), (15, .one (.d (.int .i64))), (16, .one (.ptr 200004 0))], [(200000, .box [.nilS, .nilS]), (200001, .box [.own 200005, .own 200006]), (200002, .lst 34 r5 true), (200003, .box [.d .str, .own 200007]), (200004, .box [.d (.int .i64), .d (.int .i64), .d (.int .i64), .d .str, .own 200008, .d .str, .d .str]), (200005, .lst 31 r2 true), (200006, .lst 68 r3 true), (200007, .lst 37 r1 true), (200008, .lst 39 r0 true)]⟩)]
noncomputable def cx6_0 : Cx := ⟨Tryd.prog, [e13, e14, e15, e16, e17, e18], [], 208, [], []⟩
noncomputable def B6_0 : sh6_0.D → Option (sh6_0.D ⊕ OutsD os6_0) := round cx6_0 (sub [1, 1, 1, 1, 0, 1, 0, 0, 1, 0, 0, 1, 1, 1, 1, 1, 0, 1, 0, 0, 1, 0, 0, 1, 0, 1, 0, 0] b6) sh6_0 os6_0
noncomputable def ce6_0 : CE := ⟨sh6_0, os6_0, loop B6_0⟩
theorem okc6_0 : CEOK Tryd.prog 208 (.loop (sub [1, 1, 1, 1, 0, 1, 0, 0, 1, 0, 0, 1, 1, 1, 1, 1, 0, 1, 0, 0, 1, 0, 0, 1, 0, 1, 0, 0] b6)) ce6_0 := round_ok (cx := cx6_0) (fun R => step_sound (all_fe (P := Tryd.prog) (l := [e13, e14, e15, e16, e17, e18]) ⟨ok13, ok14, ok15, ok16, ok17, ok18, trivial⟩) R) (needs_of (l := []) (by kernel_rfl) trivial) sh6_0 os6_0
@[reducible] def sh6_1 : Shape := ⟨[(1, .one (.d (.list (.int .i64)))), (2, .one (.d .bool)), (6, .one (.ptr 200000 0)), (7, .one (.ptr 200001 0)), (8, .one (.d (.int .i64))), (9, .one (.d (.int .i64))), (10, .one (.d (.int .i64))), (11, .one (.d .str)), (12, .one (.d (.int .i64))), (13, .one (.own 200002)), (14, .one (.ptr 200003 0)), (15, .one (.d (.int .i64)))], [(200000, .box [.nilS, .nilS]), (200001, .box [.own 200004, .own 200005]), (200002, .lst 34 r5 true), (200003, .box [.d .str, .own 200006]), (200004, .lst 31 r2 true), (200005, .lst 68 r3 true), (200006, .lst 37 r1 true)]⟩
@[reducible] def os6_1 : List (XE × Shape) := [(.ex 2, ⟨[(1, .one (.d (.list (.int .i64)))), (2, .one (.d .bool)), (6, .one (.ptr 200000 0)), (7, .one (.ptr 200001 0)), (8, .one (.d (.int .i64))), (9, .one (.d (.int .i64))), (10, .one (.d (.int .i64))), (11, .one (.d .str)), (12, .one (.d (.int .i64))), (14, .one (.ptr 200002 0))], [(200000, .box [.nilS, .nilS]), (200001, .box [.own 200003, .own 200004]), (200002, .box [.d .str, .own 200005]), (200003, .lst 31 r2 true), (200004, .lst 68 r3 true), (200005, .lst 37 r1 true)]⟩)]
noncomputable def cx6_1 : Cx := ⟨Tryd.prog, [e13, e14, e15, e16, e17, e18], [], 208, [(36, ce6_0)], []⟩
noncomputable def B6_1 : sh6_1.D → Option (sh6_1.D ⊕ OutsD os6_1) := round cx6_1 (sub [1, 1, 1, 1, 0, 1, 0, 0, 1, 0, 0, 1, 1, 1, 1, 1, 0, 1, 0, 0] b6) sh6_1 os6_1
noncomputable def ce6_1 : CE := ⟨sh6_1, os6_1, loop B6_1⟩
theorem okc6_1 : CEOK Tryd.prog 208 (.loop (sub [1, 1, 1, 1, 0, 1, 0, 0, 1, 0, 0, 1, 1, 1, 1, 1, 0, 1, 0, 0] b6)) ce6_1 := round_ok (cx := cx6_1) (fun R => step_sound (all_fe (P := Tryd.prog) (l := [e13, e14, e15, e16, e17, e18]) ⟨ok13, ok14, ok15, ok16, ok17, ok18, trivial⟩) R) (needs_of (l := [((.loop (sub [1, 1, 1, 1, 0, 1, 0, 0, 1, 0, 0, 1, 1, 1, 1, 1, 0, 1, 0, 0, 1, 0, 0, 1, 0, 1, 0, 0] b6)), ce6_0)]) (by kernel_rfl) ⟨okc6_0, trivial⟩) sh6_1 os6_1
@[reducible] def sh6_2 : Shape := ⟨[(1, .one (.d (.list (.int .i64)))), (2, .one (.d .bool)), (6, .one (.ptr 200000 0)), (7, .one (.ptr 200001 0)), (8, .one (.d (.int .i64))), (9, .one (.d (.int .i64))), (10, .one (.d (.int .i64)))], [(200000, .box [.nilS, .nilS]), (200001, .box [.own 200002, .own 200003]), (200002, .lst 31 r2 true), (200003, .lst 68 r3 true)]⟩
@[reducible] def os6_2 : List (XE × Shape) := [(.ex 0, ⟨[(6, .one (.ptr 200000 0)), (7, .one (.ptr 200001 0))], [(200000, .box [.nilS, .nilS]), (200001, .box [.own 200002, .own 200003]), (200002, .lst 31 r2 true), (200003, .lst 68 r3 true)]⟩)]
noncomputable def cx6_2 : Cx := ⟨Tryd.prog, [e13, e14, e15, e16, e17, e18], [], 208, [(36, ce6_0), (28, ce6_1)], []⟩
noncomputable def B6_2 : sh6_2.D → Option (sh6_2.D ⊕ OutsD os6_2) := round cx6_2 (sub [1, 1, 1, 1, 0, 1, 0, 0] b6) sh6_2 os6_2
noncomputable def ce6_2 : CE := ⟨sh6_2, os6_2, loop B6_2⟩
theorem okc6_2 : CEOK Tryd.prog 208 (.loop (sub [1, 1, 1, 1, 0, 1, 0, 0] b6)) ce6_2 := round_ok (cx := cx6_2) (fun R => step_sound (all_fe (P := Tryd.prog) (l := [e13, e14, e15, e16, e17, e18]) ⟨ok13, ok14, ok15, ok16, ok17, ok18, trivial⟩) R) (needs_of (l := [((.loop (sub [1, 1, 1, 1, 0, 1, 0, 0, 1, 0, 0, 1, 1, 1, 1, 1, 0, 1, 0, 0] b6)), ce6_1)]) (by kernel_rfl) ⟨okc6_1, trivial⟩) sh6_2 os6_2
noncomputable def cx6 : Cx := ⟨Tryd.prog, [e13, e14, e15, e16, e17, e18], [], 208, [(36, ce6_0), (28, ce6_1), (10, ce6_2)], []⟩
noncomputable def F6 : sh6.D → Option out6.D := func cx6 Tryd.f6 b6 sh6 out6
noncomputable def e6 : FE := ⟨6, sh6, out6, F6⟩
theorem ok6 : FEOK Tryd.prog e6 := func_ok (cx := cx6) (fn := Tryd.f6) (c := b6) (all_fe (P := Tryd.prog) (l := [e13, e14, e15, e16, e17, e18]) ⟨ok13, ok14, ok15, ok16, ok17, ok18, trivial⟩) (by kernel_rfl) (by kernel_rfl) (by kernel_rfl) (by kernel_rfl) (by kernel_rfl) (needs_of (l := [((.loop (sub [1, 1, 1, 1, 0, 1, 0, 0] b6)), ce6_2)]) (by kernel_rfl) ⟨okc6_2, trivial⟩)
@[reducible] def sh7 : Shape := ⟨[(0, .one (.d (.int .i64))), (1, .one (.d (.int .i64)))], []⟩
@[reducible] def out7 : Shape := ⟨[(0, .one (.d (.int .i64)))], []⟩
noncomputable def b7 : Code := Tryd.f7.body.getD .skip
noncomputable def cx7 : Cx := ⟨Tryd.prog, [], [], 15, [], []⟩
noncomputable def F7 : sh7.D → Option out7.D := func cx7 Tryd.f7 b7 sh7 out7
noncomputable def e7 : FE := ⟨7, sh7, out7, F7⟩
theorem ok7 : FEOK Tryd.prog e7 := func_ok (cx := cx7) (fn := Tryd.f7) (c := b7) (all_fe (P := Tryd.prog) (l := []) trivial) (by kernel_rfl) (by kernel_rfl) (by kernel_rfl) (by kernel_rfl) (by kernel_rfl) (needs_of (l := []) (by kernel_rfl) trivial)
end Go.Vx.Z
/-! slices.SortFunc over an own list, by the shelf's contract, as an entry. -/
namespace Go.Vx
open Go Go.RowKit Go.Proofs Go.Shelf Go.Sort
set_option linter.unusedVariables false
set_option linter.unusedSimpArgs false
def rowShape : Ty → List SAC
  | .unit => []
  | .cons a b => .d a :: rowShape b
  | .int k => [.d (.int k)]
  | .bool => [.d .bool]
  | .str => [.d .str]
  | .list r => [.d (.list r)]
def toP : (r : Ty) → r.D → {X : Type} → X → rowP (rowShape r) X
  | .unit, _, _, y => y
  | .cons _ b, x, _, y => (x.1, toP b x.2 y)
  | .int _, x, _, y => (x, y)
  | .bool, x, _, y => (x, y)
  | .str, x, _, y => (x, y)
  | .list _, x, _, y => (x, y)
theorem em_toP : ∀ (r : Ty) (x : r.D) {X : Type} (y : X), emRow (rowShape r) (toP r x y) = (cellsOf r x, y)
  | .unit, _, _, _ => rfl
  | .cons a b, x, X, y => by
    have h := em_toP b x.2 y
    simp only [rowShape, toP, emRow, emAC, cellsOf, h]
  | .int _, _, _, _ => rfl
  | .bool, _, _, _ => rfl
  | .str, _, _, _ => rfl
  | .list _, _, _, _ => rfl
@[reducible] def shCmp (r : Ty) : Shape := ⟨[(0, .row (rowShape r)), (1, .row (rowShape r))], []⟩
@[reducible] def outI : Shape := ⟨[(0, .one (.d (.int .i64)))], []⟩
@[reducible] def shSort (e : Nat) (r : Ty) (g : Nat) : Shape := ⟨[(0, .one (.own 100000)), (1, .one (.fn g))], [(100000, .lst e r false)]⟩
@[reducible] def outSort (e : Nat) (r : Ty) : Shape := ⟨[], [(100000, .lst e r false)]⟩
/-- What the sort makes of a list: by places. -/
def sortIdx (lt : Nat → Nat → Bool) (n : Nat) : List Nat := (Sort.pdq lt (Array.range n) 0 n (Lib.bitLen n) true true).toList
def sortBy {α : Type} (cf : α → α → Int) : List α → List α
  | [] => []
  | x :: l => (sortIdx (ltOf fun i j => cf ((x :: l).getD i x) ((x :: l).getD j x)) (x :: l).length).map fun i => (x :: l).getD i x
def FSort (r : Ty) (e g : Nat) (ok : r.D → Bool) (cf : r.D → r.D → Int) : (shSort e r g).D → Option (outSort e r).D := fun p =>
  bif p.1.all ok && decide (p.1.length < 4611686018427387904) then some (sortBy cf p.1, ()) else none

theorem swo_at {α β : Type} {cf : α → α → Int} (h : SWO (ltOf cf)) (f : β → α) : SWO (ltOf fun i j => cf (f i) (f j)) :=
  ⟨fun x => h.irrefl (f x), fun x y z => h.trans (f x) (f y) (f z), fun x y z => h.ntrans (f x) (f y) (f z)⟩
theorem pdq_range {lt : Nat → Nat → Bool} (h : SWO lt) (n : Nat) : (sortIdx lt n).Perm (List.range n) := by
  obtain ⟨⟨h1, _, h2⟩, _⟩ := Sort.pdq_sorts lt h (Array.range n) 0 n (Lib.bitLen n) true true (Nat.zero_le _) (by simp) (Or.inl rfl)
  have gen : ∀ (A : Array Nat), A.size = n → A.extract 0 n = A := by intro A hA; subst hA; exact Array.extract_size
  have e1 := gen (Sort.pdq lt (Array.range n) 0 n (Lib.bitLen n) true true) (by rw [h1]; simp)
  have e2 := gen (Array.range n) (by simp)
  rw [e1, e2, Array.toList_range] at h2
  exact h2
theorem flatK_toList {α : Type} [Inhabited α] (enc : α → List Value) (k : Nat) (hk : ∀ x, (enc x).length = k) (d : Array α) : (flatK enc k d).toList = d.toList.flatMap enc := by
  apply List.ext_getElem
  · rw [Array.length_toList, size_flatK, List.length_flatMap]
    simp [hk, Function.comp_def]
    rw [List.map_const', List.sum_replicate_nat]; simp
  · intro t h1 h2
    rw [Array.length_toList, size_flatK] at h1
    have hk0 : 0 < k := by
      rcases Nat.eq_zero_or_pos k with h | h
      · subst h; simp at h1
      · exact h
    have hd : t / k < d.size := Nat.div_lt_of_lt_mul (by rw [Nat.mul_comm]; exact h1)
    have hm : t % k < k := Nat.mod_lt _ hk0
    have g1 := get_flatK enc k d t h1
    rw [getElem!_pos _ t (by rw [size_flatK]; exact h1)] at g1
    rw [Array.getElem_toList, g1]
    have key : ∀ (l : List α) (q : Nat), q < l.length → ∀ j, j < k → (l.flatMap enc)[q * k + j]? = (enc l[q]!)[j]? := by
      intro l
      induction l with
      | nil => intro q hq; simp at hq
      | cons x l ih =>
        intro q hq j hj
        rw [List.flatMap_cons]
        cases q with
        | zero => rw [List.getElem?_append_left (by rw [hk]; omega)]; simp
        | succ q =>
          rw [List.getElem?_append_right (by rw [hk, Nat.add_mul]; omega), hk, show (q + 1) * k + j - k = q * k + j by rw [Nat.add_mul]; omega]
          rw [ih q (by simpa using hq) j hj]
          simp
    have h3 := key d.toList (t / k) (by simpa using hd) (t % k) hm
    rw [Nat.mul_comm, Nat.div_add_mod, List.getElem?_eq_getElem h2] at h3
    have h4 : d.toList[t / k]! = d[t / k]! := by
      rw [getElem!_pos d.toList _ (by simpa using hd), getElem!_pos d _ hd]
      simp
    rw [h4, List.getElem?_eq_getElem (by rw [hk]; exact hm)] at h3
    injection h3 with h3
    rw [h3, getElem!_pos _ _ (by rw [hk]; exact hm)]
theorem onCells_at (f : Array Value → Array Value) (cs : Array Value) (t : TypeId) (z : Nat × Nat) : Sort.onCells f (.cells cs t z) = .cells (f cs) t z := rfl
section
variable {P : Program} {ρ : Shelf.Ren}
/-- The element at a place, or the first. -/
def vsAt (k : Nat) (vs : List Value) (n : Nat) (i : Nat) : List Value := (vs.drop ((if i < n then i else 0) * k)).take k
theorem world_grown {W w' : World} (h1 : w'.os = W.os) (h2 : w'.tape = W.tape) (h3 : w'.output = W.output) (h4 : W.heap.size ≤ w'.heap.size) (h5 : ∀ k, k < W.heap.size → w'.heap[k]? = W.heap[k]?) (h6 : W.drawn ≤ w'.drawn) :
    ∃ q os', w' = grow (W.drewN q) os' := by
  refine ⟨w'.drawn - W.drawn, w'.heap.extract W.heap.size w'.heap.size, ?_⟩
  obtain ⟨wh, wt, wd, wo, wp⟩ := w'
  obtain ⟨Wh, Wt, Wd, Wo, Wp⟩ := W
  simp only at h1 h2 h3 h4 h5 h6
  subst h1 h2 h3
  simp only [grow, World.drewN, World.mk.injEq, true_and, and_true]
  refine ⟨?_, by omega⟩
  apply Array.ext
  · simp; omega
  · intro i hi hi'
    rw [Array.getElem_append]
    split
    · rename_i hlt
      have := h5 i hlt
      rw [Array.getElem?_eq_getElem hi, Array.getElem?_eq_getElem hlt] at this
      exact Option.some.inj this
    · rename_i hlt
      rw [Array.getElem_extract]
      congr 1
      omega
theorem sort_ok (L : SlLaysF0.n6 P ρ) (none_ok : ∀ (p : Option Addr) (cap : Nat) (fv : Value) (w : World), Calls P (ρ.f 6) #[.slice p 0 cap, fv] w fun e w' => e = .returned (.tuple #[]) ∧ w' = w)
    (ents : ∀ args w, (callFunc (ρ.f 6) args).run P w = .ok (.enter (ρ.f 6) args) w)
    {r : Ty} {e g : Nat} (aE : ∀ w, (Go.isAgg (ρ.t 24)).run P w = .ok true w) (zE : ∀ w, (Go.sizeOf (ρ.t 24)).run P w = .ok r.width w)
    {Fc : (shCmp r).D → Option outI.D} (hc : FEOK P ⟨g, shCmp r, outI, Fc⟩) (eg : ∀ args w, (callFunc g args).run P w = .ok (.enter g args) w)
    (cf : r.D → r.D → Int) (ok : r.D → Bool) (hcf : ∀ x y, ok x = true → ok y = true → Fc (toP r x (toP r y ())) = some (cf x y, ())) (hO : SWO (ltOf cf)) :
    FEOK P ⟨ρ.f 6, shSort e r g, outSort e r, FSort r e g ok cf⟩ := by
  intro p res hF gh w args hsz hH hargs
  obtain ⟨xs, u⟩ := p
  unfold FSort at hF
  simp only at hF
  cases hcond : (xs.all ok && decide (xs.length < 4611686018427387904)) with
  | false => rw [hcond] at hF; cases hF
  | true =>
  rw [hcond] at hF
  simp only [cond_true, Option.some.injEq] at hF
  subst hF
  simp only [Bool.and_eq_true, decide_eq_true_eq, List.all_eq_true] at hcond
  obtain ⟨hok, hlen⟩ := hcond
  have hm : (embed (shSort e r g) (xs, u)).blk 100000 = some (.lst e r xs false) := rfl
  obtain ⟨h1a, h1b, h1c⟩ : RepC gh (embed (shSort e r g) (xs, u)).blk w (.own 100000) (args.getD 0 undef) := hargs 0
  have h2 : args.getD 1 undef = .func (.func g) #[] #[] := hargs 1
  have hargs2 : args = #[gh.val 100000, .func (.func g) #[] #[]] := by
    have hsz : args.size = 2 := hsz
    apply Array.ext
    · simpa using hsz
    · intro i q1 q2
      simp at q2
      match i, q2 with
      | 0, _ => simpa [Array.getD, q1] using h1b
      | 1, _ => simpa [Array.getD, q1] using h2
  obtain ⟨vs, hown, hvs, hw0, _⟩ := hH.blk 100000 _ hm
  refine .inr ⟨ents _ _, ?_⟩
  rw [hargs2]
  -- the end, from a world that holds the new row
  have fin : ∀ (w' : World) (ys : List r.D) (vs' : List Value) (gb : Nat), gh.blk 100000 = some gb → w.grownBy w' (some gb) → w.drawn ≤ w'.drawn → w'.ownsRow 0 e r.width (gh.val 100000) ys.length vs' → RepCs gh (embed (shSort e r g) (xs, u)).blk w (rowsCells r ys) vs' →
      Ret (outSort e r) (ys, ()) gh (embed (shSort e r g) (xs, u)).blk w (.tuple #[]) w' := by
    intro w' ys vs' gb hgb hG hdr ho hr
    have hput := heap_put hH hm rfl (b' := .lst e r ys false) rfl hgb (fun x h => by obtain ⟨h, _⟩ := h; cases h) hdr hG (fun hc hext => by
      exact ⟨vs', ho, repCs_mono (g := gh) (g' := gh) (m := (embed (shSort e r g) (xs, u)).blk) (fun _ h => h) hc hext hr, hw0, fun hf => by cases hf⟩)
    obtain ⟨hH2, hT2, _⟩ := hput
    have hme : upd (embed (shSort e r g) (xs, u)).blk 100000 (.lst e r ys false) = (embed (outSort e r) (ys, ())).blk := by
      funext i
      show (bif Nat.beq 100000 i then some _ else lookM i _) = lookM i _
      simp only [embed, emMem, emBlk, lookM]
      cases Nat.beq 100000 i <;> rfl
    rw [hme] at hH2 hT2
    exact ⟨gh, hH2, hT2, ⟨#[], rfl, .nil⟩⟩
  rcases hown.2 with ⟨hv, h0⟩ | ⟨gb, cap, cur, hv, _, hg, hnc, hcm, hcs, htk⟩
  · -- nil
    rw [hv]
    have hx : xs = [] := List.eq_nil_of_length_eq_zero h0
    subst hx
    refine Calls.mono (none_ok none 0 _ w) fun ev w' ⟨he, hw⟩ => ⟨_, he, ?_⟩
    subst hw
    have hme : (embed (shSort e r g) (([] : List r.D), u)).blk = (embed (outSort e r) (([] : List r.D), ())).blk := by funext i; rfl
    refine ⟨gh, ?_, ?_, ⟨#[], rfl, .nil⟩⟩
    · show HeapOK gh (embed (outSort e r) (([] : List r.D), ())).blk w'
      rw [← hme]; exact hH
    · show Tr gh _ w' gh (embed (outSort e r) (([] : List r.D), ())).blk w'
      rw [← hme]; exact Tr.refl _ _ _
  · rw [hv]
    have hgb : gh.blk 100000 = some gb := by simp [Gh.blk, hv, blockOfV]
    have hglt : gb < w.heap.size := (Array.getElem?_eq_some_iff.1 hg).1
    cases xs with
    | nil =>
      refine Calls.mono (none_ok _ cap _ w) fun ev w' ⟨he, hw⟩ => ⟨_, he, ?_⟩
      subst hw
      have hme : (embed (shSort e r g) (([] : List r.D), u)).blk = (embed (outSort e r) (([] : List r.D), ())).blk := by funext i; rfl
      refine ⟨gh, ?_, ?_, ⟨#[], rfl, .nil⟩⟩
      · show HeapOK gh (embed (outSort e r) (([] : List r.D), ())).blk w'
        rw [← hme]; exact hH
      · show Tr gh _ w' gh (embed (outSort e r) (([] : List r.D), ())).blk w'
        rw [← hme]; exact Tr.refl _ _ _
    | cons x0 l =>
      generalize hX : x0 :: l = X at *
      have hX0 : 0 < X.length := by rw [← hX]; simp
      have hvl : vs.length = X.length * r.width := hown.1
      have hclamp : ∀ i, (if i < X.length then i else 0) < X.length := fun i => by split <;> omega
      have henc : ∀ i, (vsAt r.width vs X.length i).length = r.width := fun i => by
        unfold vsAt
        rw [List.length_take, List.length_drop, hvl]
        have := Nat.mul_le_mul_right r.width (show (if i < X.length then i else 0) + 1 ≤ X.length from hclamp i)
        rw [Nat.add_mul, Nat.one_mul] at this
        omega
      have hrep : ∀ i, RepCs gh (embed (shSort e r g) (X, u)).blk w (cellsOf r (X.getD i x0)) (vsAt r.width vs X.length i) := fun i => by
        unfold vsAt
        have hi := hclamp i
        have hgx : X[if i < X.length then i else 0]? = some (X.getD i x0) := by
          split
          · rename_i hlt; simp [List.getD, hlt]
          · rename_i hlt
            rw [show X.getD i x0 = x0 by simp [List.getD, Nat.le_of_not_lt hlt], ← hX]
            rfl
        rw [← rowsCells_at X _ _ hgx]
        exact (hvs.drop _).take _
      have hone : ∀ i, ∀ v ∈ vsAt r.width vs X.length i, v.oneCell' = true := fun i => repCs_one (hrep i) (cellsOf_ok _)
      have hokX : ∀ i, ok (X.getD i x0) = true := fun i => by
        refine hok _ ?_
        by_cases hlt : i < X.length
        · simp only [List.getD, List.getElem?_eq_getElem hlt, Option.getD_some]; exact List.getElem_mem hlt
        · rw [show X.getD i x0 = x0 by simp [List.getD, Nat.le_of_not_lt hlt], ← hX]; simp
      let cI : Nat → Nat → Int := fun i j => cf (X.getD i x0) (X.getD j x0)
      have hOI : SWO (ltOf cI) := swo_at hO fun i => X.getD i x0
      have hflat : (flatK (vsAt r.width vs X.length) r.width (Array.range X.length)).toList = vs := by
        rw [flatK_toList _ _ henc, Array.toList_range]
        have key : ∀ n, n ≤ X.length → (List.range n).flatMap (vsAt r.width vs X.length) = vs.take (n * r.width) := by
          intro n
          induction n with
          | zero => intro _; simp
          | succ n ih =>
            intro hn
            rw [List.range_succ, List.flatMap_append, ih (by omega), List.flatMap_cons, List.flatMap_nil, List.append_nil]
            unfold vsAt
            rw [if_pos (by omega), Nat.add_mul, Nat.one_mul, List.take_add]
        rw [key _ (Nat.le_refl _), ← hvl, List.take_length]
      have hHK : HoldsK (vsAt r.width vs X.length) r.width w gb 0 (Array.range X.length) := by
        intro j hj
        rw [size_flatK, Array.size_range] at hj
        rw [Nat.zero_add]
        have hown' : w.ownsRow 0 e r.width (.slice (some ⟨gb, 0, none⟩) X.length cap) X.length vs := by rw [← hv]; exact hown
        refine ⟨?_, hown'.frozenAt j⟩
        rw [hown'.cellAt j hj]
        have e1 := get_flatK (vsAt r.width vs X.length) r.width (Array.range X.length) j (by simpa using hj)
        have hlt : j < (flatK (vsAt r.width vs X.length) r.width (Array.range X.length)).size := by simpa using hj
        rw [getElem!_pos _ j hlt, ← Array.getElem_toList]
        simp only [hflat]
        rw [List.getElem?_eq_getElem (by rw [hvl]; exact hj)]
        rfl
      -- the stable cells lie elsewhere
      have hng : ∀ x, gh.S x → x.block ≠ gb := fun x hx e' => by
        have := hH.sep x hx 100000 _ hm (by rw [hgb, e'])
        obtain ⟨h, _⟩ := this
        cases h
      have hheap : ∀ m os dk k, k ≠ gb → k < w.heap.size → (sortWorldK (vsAt r.width vs X.length) r.width w gb 0 m dk os).heap[k]? = w.heap[k]? := by
        intro m os dk k hk hlt
        unfold sortWorldK putRowK putRow mapBlock grow Sort.ahead
        simp only
        rw [Array.getElem?_append_left (by simpa using hlt), Array.getElem?_modify, if_neg (Ne.symm hk)]
      have hsize : ∀ m os dk, w.heap.size ≤ (sortWorldK (vsAt r.width vs X.length) r.width w gb 0 m dk os).heap.size := by
        intro m os dk
        unfold sortWorldK putRowK putRow mapBlock grow Sort.ahead
        simp
      have hcell : ∀ m os dk x, gh.S x → (sortWorldK (vsAt r.width vs X.length) r.width w gb 0 m dk os).cell? x = w.cell? x := fun m os dk x hx =>
        World.cell?_of_block (hheap m os dk x.block (hng x hx) (hH.S_lt hx))
      have hcmp : CmpLays P g #[] (vsAt r.width vs X.length) r.width cI gb 0 (Array.range X.length).size w := by
        intro m os dk hdk i j
        generalize hWd : sortWorldK (vsAt r.width vs X.length) r.width w gb 0 m dk os = W
        have hcW : ∀ x, gh.S x → W.cell? x = w.cell? x := fun x hx => by rw [← hWd]; exact hcell m os dk x hx
        have hHW : HeapOK gh (fun _ => none) W := ⟨fun id b h => (by cases h), fun i j b c h => (by cases h), fun x hx id b h => (by cases h), fun x hx => by
          obtain ⟨q1, v, q2⟩ := hH.st x hx
          exact ⟨q1, v, by rw [hcW x hx]; exact q2⟩⟩
        have hrW : ∀ i, RepCs gh (fun _ => none) W (cellsOf r (X.getD i x0)) (vsAt r.width vs X.length i) := fun i => by
          refine all2_of_mem (fun a ha v hv => ?_) (hrep i)
          obtain ⟨t, y, rfl⟩ := cellsOf_c ha
          exact repD_mono (S := gh.S) (w := w) (fun _ h => h) hcW (hv : RepD gh.S w t y v)
        have hFc := hcf _ _ (hokX i) (hokX j)
        have henv : (embed (shCmp r) (toP r (X.getD i x0) (toP r (X.getD j x0) ()))).env = [(0, .v (.row (cellsOf r (X.getD i x0)))), (1, .v (.row (cellsOf r (X.getD j x0))))] := by
          simp only [embed, emEnv, emA1, em_toP]
        have hdoes := hc _ _ hFc gh W #[.agg (vsAt r.width vs X.length i).toArray, .agg (vsAt r.width vs X.length j).toArray] rfl hHW (fun t => by
          show RepV gh (fun _ => none) W (lookE t (embed (shCmp r) (toP r (X.getD i x0) (toP r (X.getD j x0) ()))).env) _
          rw [henv]
          match t with
          | 0 => exact ⟨_, rfl, by simpa using hrW i⟩
          | 1 => exact ⟨_, rfl, by simpa using hrW j⟩
          | t + 2 => trivial)
        rcases hdoes with ⟨v, w', q1, _⟩ | ⟨_, q2⟩
        · rw [eg] at q1; cases q1
        · refine Calls.mono q2 fun ev w' ⟨v, he, gh', hH', hT', hres⟩ => ?_
          have hv' : v = .int .i64 (cI i j) := hres
          refine ⟨by rw [he, hv'], ?_⟩
          exact world_grown hT'.os hT'.tape hT'.output hT'.size (fun k hk => hT'.same k hk fun id b h => by cases h) hT'.drawn
      have hcon := AnyQ.slices_SortFunc_eq L r.width aE zE (vsAt r.width vs X.length) henc hone cI hOI g #[] gb 0 cap (Array.range X.length) w eg hcmp hHK hglt (by simpa using hlen)
      rw [show (Array.range X.length).size = X.length by simp] at hcon
      refine Calls.mono hcon fun ev w' ⟨he, n, os, hw'⟩ => ⟨_, he, ?_⟩
      -- the new row
      have hperm := pdq_range hOI X.length
      generalize hD : Sort.pdq (ltOf cI) (Array.range X.length) 0 X.length (Lib.bitLen X.length) true true = D at hw'
      have hDl : sortIdx (ltOf cI) X.length = D.toList := by rw [← hD]; rfl
      rw [hDl] at hperm
      have hDs : D.size = X.length := by have := hperm.length_eq; simpa using this
      have hys : sortBy cf X = D.toList.map fun i => X.getD i x0 := by
        rw [← hDl]
        have : ∀ Y : List r.D, x0 :: l = Y → sortBy cf Y = (sortIdx (ltOf fun i j => cf (Y.getD i x0) (Y.getD j x0)) Y.length).map fun i => Y.getD i x0 := by
          intro Y hY
          subst hY
          rfl
        exact this X hX
      rw [hys]
      have hF := flatK_toList (vsAt r.width vs X.length) r.width henc D
      have hFs : (flatK (vsAt r.width vs X.length) r.width D).size = X.length * r.width := by rw [size_flatK, hDs]
      refine fin w' _ (D.toList.flatMap (vsAt r.width vs X.length)) gb hgb ?_ ?_ ?_ ?_
      · refine ⟨by rw [hw']; rfl, by rw [hw']; rfl, by rw [hw']; rfl, by rw [hw']; exact hsize n os D, fun k hk hne => by rw [hw']; exact hheap n os D k (fun e' => hne (by rw [e'])) hk⟩
      · rw [hw']
        show w.drawn ≤ w.drawn + n
        omega
      · have hDl2 : D.toList.length = X.length := by simpa using hDs
        rw [hv, List.length_map, hDl2]
        refine ⟨by rw [← hF, Array.length_toList, hFs], .inr ⟨gb, cap, putCells id 0 (flatK (vsAt r.width vs X.length) r.width D) cur, rfl, Nat.zero_le _, ?_, hnc, hcm, by unfold putCells; rw [Array.size_mapIdx]; exact hcs, ?_⟩⟩
        · rw [hw']
          unfold sortWorldK putRowK putRow mapBlock grow Sort.ahead
          simp only
          rw [Array.getElem?_append_left (by simpa using hglt), Array.getElem?_modify, if_pos rfl, hg]
          rfl
        · rw [← hF]
          apply List.ext_getElem?
          intro t
          rw [List.getElem?_take]
          have hle : X.length * r.width ≤ cap * r.width := Nat.mul_le_mul_right _ hnc
          split
          · rename_i hlt
            have htc : t < cur.size := by rw [hcs]; omega
            have htF : t < (flatK (vsAt r.width vs X.length) r.width D).size := by rw [hFs]; exact hlt
            rw [Array.getElem?_toList, Array.getElem?_toList, Array.getElem?_eq_getElem htF]
            unfold putCells
            rw [Array.getElem?_mapIdx, Array.getElem?_eq_getElem htc]
            simp only [Option.map_some, Nat.zero_le, Nat.zero_add, true_and, Nat.sub_zero, id_eq]
            rw [if_pos htF, getElem!_pos _ t htF]
          · rename_i hlt
            rw [Array.getElem?_toList, Array.getElem?_eq_none (by rw [hFs]; omega)]
      · have : ∀ (M : List Nat), RepCs gh (embed (shSort e r g) (X, u)).blk w (rowsCells r (M.map fun i => X.getD i x0)) (M.flatMap (vsAt r.width vs X.length)) := by
          intro M
          induction M with
          | nil => exact .nil
          | cons i M ih =>
            rw [List.map_cons, List.flatMap_cons]
            unfold rowsCells
            rw [List.flatMap_cons]
            exact All2.append (hrep i) ih
        exact this _
end
end Go.Vx
/-! A range over a function: what its rounds need of the evaluator. -/
namespace Go.Vx
open Go Go.RowKit
set_option linter.unusedVariables false
set_option linter.unusedSimpArgs false
variable {R : Type}
/-- The widest fence, in a round or not. -/
def Fw (ro : Option Nat) : Fence := { Fence.wide with round := ro }
theorem fw_none : Fw none = Fence.wide := rfl
theorem fw_some (l : Nat) : Fw (some l) = Fence.wide.inRound l := rfl
theorem oper_in {P : Program} {o : Oper} {a : Act} {w : World} {next : Act → World → Prop} {Q : Exit → Act → World → Prop} {ro : Option Nat} (hd : ∀ c, o.op ≠ .defer c) (h : o.wp P a w next Q) : o.wpIn (Fw ro) 0 P a w next Q := by
  refine ⟨fun _ _ => trivial, ?_⟩
  rw [Oper.semAt_eq _ _ _ hd]
  unfold Oper.wp at h
  revert h
  cases (execOp a.eval o).run P w with
  | ok v w' =>
    cases v with
    | value v => intro h; exact h
    | skip => intro h; exact h
    | «defer» d => intro h; exact h
    | enter f args => intro h; exact ⟨fun e => by simp [Fw, Fence.wide] at e, callsIn_wide.2 h⟩
    | row row args =>
      intro h
      refine ⟨fun e => by simp [Fw, Fence.wide] at e, fun c cs _ => ?_⟩
      obtain ⟨v, w', h1, h2⟩ := h c cs
      exact ⟨v, w', h1, stepsIn_wide.2 h2⟩
    | round l f tmps assign body => intro h; exact h.elim
    | _ => intro h; exact h.elim
  | halt x w' =>
    cases x with
    | panic v => intro h; exact h
    | _ => intro h; exact h.elim
abbrev dfr (d : List Deferred) (a : Act) : Act := { a with defers := d }
def simpleOp (o : Oper) : Bool := match o.op with
  | .load _ _ => true
  | .move _ => true
  | .assign _ => true
  | _ => false
theorem oper_in_d {P : Program} {o : Oper} {a : Act} {w : World} {next : Act → World → Prop} {Q : Exit → Act → World → Prop} {ro : Option Nat} (d : List Deferred) (hd : simpleOp o = true)
    (h : o.wp P a w (fun a w => next (dfr d a) w) (fun e a w => Q e (dfr d a) w)) : o.wpIn (Fw ro) 0 P (dfr d a) w next Q := by
  refine ⟨fun _ _ => trivial, ?_⟩
  rw [Oper.semAt_eq _ _ _ (fun c e => by simp [simpleOp, e] at hd)]
  unfold Oper.wp at h
  show o.uponIn (Fw ro) 0 P (dfr d a) next Q ((execOp a.eval o).run P w)
  have hp : ∀ v, (dfr d a).put o.dst v = dfr d (a.put o.dst v) := fun v => by unfold Act.put; cases o.dst <;> rfl
  have hv : ∀ v, (execOp a.eval o).run P w = .ok (.value v) w → o.uponIn (Fw ro) 0 P (dfr d a) next Q ((execOp a.eval o).run P w) := fun v e => by
    rw [e] at h ⊢
    show next _ _
    rw [hp]
    exact h
  unfold simpleOp at hd
  split at hd
  · rename_i t x ho
    have e : execOp a.eval o = (do pure (.value (← Instr.loadAt t (a.eval x))) : Sem Next) := by unfold execOp; rw [ho]
    rw [e] at h ⊢
    rw [Sem.run_bind] at h ⊢
    cases hl : (Instr.loadAt t (a.eval x)).run P w with
    | ok v w' =>
      rw [hl] at h
      simp only [Result.andThen, Sem.run_pure] at h ⊢
      show next _ _
      rw [hp]
      exact h
    | halt x w' =>
      rw [hl] at h
      simp only [Result.andThen] at h ⊢
      cases x with
      | panic v => exact h
      | _ => exact h.elim
  · rename_i x ho
    exact hv (a.eval x) (by unfold execOp; rw [ho]; rfl)
  · rename_i x ho
    exact hv (a.eval x) (by unfold execOp; rw [ho]; rfl)
  · cases hd
def noDefer (o : Oper) : Bool := match o.op with
  | .defer _ => false
  | _ => true
theorem noDefer_ne {o : Oper} (h : noDefer o = true) : ∀ c, o.op ≠ .defer c := fun c e => by simp [noDefer, e] at h
theorem wp_tmps {P : Program} {o : Oper} {a : Act} {w : World} {next : Act → World → Prop} {Q : Exit → Act → World → Prop} {I : Array Value → Prop} (hI : ∀ v, I (a.put o.dst v).tmps) (h : o.wp P a w (fun a w => I a.tmps → next a w) Q) : o.wp P a w next Q := by
  unfold Oper.wp at h ⊢
  revert h
  cases (execOp a.eval o).run P w with
  | ok v w' =>
    cases v with
    | value v => intro h; exact h (hI v)
    | skip => intro h; exact h (hI _)
    | «defer» d =>
      intro h
      refine h ?_
      have := hI undef
      unfold Act.put at this ⊢
      cases hd : o.dst with
      | none => rw [hd] at this; exact this
      | some t => rw [hd] at this; exact this
    | enter f args =>
      intro h
      refine Calls.mono h fun e w'' hh => ?_
      cases e with
      | returned v => exact hh (hI v)
      | panicked ch => exact hh
      | outgrown => exact hh
    | row row args => intro h; exact Rows.mono h fun v w' hh => hh (hI v)
    | round l f tmps assign body => intro h; exact h
    | _ => intro h; exact h
  | halt x w' =>
    cases x with
    | panic v => intro h; exact h
    | _ => intro h; exact h.elim
def Keep (I : Array Value → Prop) (os : List Oper) : Prop := ∀ o ∈ os, ∀ (a : Act) v, I a.tmps → I (a.put o.dst v).tmps
theorem keep_true (os : List Oper) : Keep (fun _ => True) os := fun _ _ _ _ _ => trivial
theorem keep_slot {s : Nat} {v : Value} {os : List Oper} (h : os.all (fun o => match o.dst with | some d => !Nat.beq d s | none => true) = true) : Keep (fun t => t.getD s undef = v) os := by
  intro o ho a u hu
  have := List.all_eq_true.1 h o ho
  unfold Act.put
  cases hd : o.dst with
  | none => exact hu
  | some d =>
    rw [hd] at this
    simp only [Bool.not_eq_true'] at this
    have hne : d ≠ s := fun e => by rw [e] at this; simp at this
    show (a.tmps.setIfInBounds d u).getD s undef = v
    rw [← hu]
    simp [Array.getD_eq_getD_getElem?, Array.getElem?_setIfInBounds, hne]
theorem keep_and {I J : Array Value → Prop} {os : List Oper} (h : Keep I os) (k : Keep J os) : Keep (fun t => I t ∧ J t) os := fun o ho a v ⟨h1, h2⟩ => ⟨h o ho a v h1, k o ho a v h2⟩
theorem trace_in {P : Program} {n : Nat} {ops : Array Oper} {Q : Exit → Act → World → Prop} {C : Ctx} {ro : Option Nat} {I : Array Value → Prop} (hn : C.n = n) (rest : List Nat) : ∀ (os : List Oper) (i : Nat) (σ : St) (es : List Eff), (∀ j o, os[j]? = some o → ops[i + j]? = some o) → (∀ o ∈ os, noDefer o = true) → Keep I os → Trace P n ops os σ es →
    (∀ gh a w, Sim C gh (endOf os σ es) a w → I a.tmps → wpOpsIn (Fw ro) 0 P ops Q rest a w) → ∀ gh a w, Sim C gh σ a w → I a.tmps → wpOpsIn (Fw ro) 0 P ops Q (List.range' i os.length ++ rest) a w
  | [], i, σ, [], _, _, _, _, hQ, gh, a, w, hs, hI => hQ gh a w hs hI
  | [], _, _, _ :: _, _, _, _, h, _, _, _, _, _, _ => h.elim
  | _ :: _, _, _, [], _, _, _, h, _, _, _, _, _, _ => h.elim
  | o :: os, i, σ, e :: es, ho, hd, hk, h, hQ, gh, a, w, hs, hI => by
    have h0 : ops[i]? = some o := by simpa using ho 0 o rfl
    have hrec := trace_in (ro := ro) hn rest os (i + 1) (σ.apply o.dst e) es (fun j o' hj => by rw [Nat.add_assoc, Nat.add_comm 1 j]; exact ho (j + 1) o' (by simpa using hj)) (fun o' ho' => hd o' (List.mem_cons_of_mem _ ho')) (fun o' ho' => hk o' (List.mem_cons_of_mem _ ho')) h.2 hQ
    simp only [List.length_cons, List.range'_succ, List.cons_append, wpOpsIn, h0]
    have hput : ∀ v, I (a.put o.dst v).tmps := fun v => hk o (by simp) a v hI
    have := h.1 C gh σ a w (fun a w => I a.tmps → wpOpsIn (Fw ro) 0 P ops Q (List.range' (i + 1) os.length ++ rest) a w) Q hn (agree_iff.2 fun _ _ => rfl) hs (fun gh' a' w' hs' => hrec gh' a' w' hs')
    split
    · rename_i hw
      rw [if_pos hw] at this
      exact oper_in (noDefer_ne (hd o (by simp))) (wp_tmps hput this)
    · rename_i hw
      rw [if_neg hw] at this
      exact ⟨fun _ _ => trivial, this (hput _)⟩
theorem trace_in_d {P : Program} {n : Nat} {ops : Array Oper} {Q : Exit → Act → World → Prop} {C : Ctx} {ro : Option Nat} (d : List Deferred) (hn : C.n = n) : ∀ (os : List Oper) (i : Nat) (σ : St) (es : List Eff), (∀ j o, os[j]? = some o → ops[i + j]? = some o) → (∀ o ∈ os, simpleOp o = true) → Trace P n ops os σ es →
    (∀ gh a w, Sim C gh (endOf os σ es) a w → Q .normal (dfr d a) w) → ∀ gh a w, Sim C gh σ a w → wpOpsIn (Fw ro) 0 P ops Q (List.range' i os.length) (dfr d a) w
  | [], i, σ, [], _, _, _, hQ, gh, a, w, hs => hQ gh a w hs
  | [], _, _, _ :: _, _, _, h, _, _, _, _, _ => h.elim
  | _ :: _, _, _, [], _, _, h, _, _, _, _, _ => h.elim
  | o :: os, i, σ, e :: es, ho, hd, h, hQ, gh, a, w, hs => by
    have h0 : ops[i]? = some o := by simpa using ho 0 o rfl
    have hrec := trace_in_d (ro := ro) d hn os (i + 1) (σ.apply o.dst e) es (fun j o' hj => by rw [Nat.add_assoc, Nat.add_comm 1 j]; exact ho (j + 1) o' (by simpa using hj)) (fun o' ho' => hd o' (List.mem_cons_of_mem _ ho')) h.2 hQ
    simp only [List.length_cons, List.range'_succ, wpOpsIn, h0]
    have := h.1 C gh σ a w (fun a w => wpOpsIn (Fw ro) 0 P ops Q (List.range' (i + 1) os.length) (dfr d a) w) (fun e a w => Q e (dfr d a) w) hn (agree_iff.2 fun _ _ => rfl) hs (fun gh' a' w' hs' => hrec gh' a' w' hs')
    split
    · rename_i hw
      have hw' : Region.wanted o (yielded ops a.tmps) = true := hw
      rw [if_pos hw'] at this
      exact oper_in_d d (hd o (by simp)) this
    · rename_i hw
      have hw' : ¬ Region.wanted o (yielded ops a.tmps) = true := hw
      rw [if_neg hw'] at this
      refine ⟨fun _ _ => trivial, ?_⟩
      have hp : ∀ v, (dfr d a).put o.dst v = dfr d (a.put o.dst v) := fun v => by unfold Act.put; cases o.dst <;> rfl
      rw [hp]
      exact this
/-- The first operations of a region. -/
theorem ops_in {cx : Cx} (hst : ∀ R : Type, StepSound R cx) {ops : Array Oper} {Q : Exit → Act → World → Prop} {ro : Option Nat} {I : Array Value → Prop} {os all : List Oper} {σ : St} {K : St → Option R} {r : R} {i : Nat} (hall : all = ops.toList) (hd : os.all noDefer = true) (hk : Keep I os) (ho : ∀ j o, os[j]? = some o → ops[i + j]? = some o)
    (h : runOps cx all os σ [] (fun _ τ => K τ) = some r) (rest : List Nat) {C : Ctx} {gh : Gh} {a : Act} {w : World} (hn : C.n = cx.n) (hs : Sim C gh σ a w) (hI : I a.tmps)
    (hQ : ∀ τ, K τ = some r → ∀ gh' a' w', Sim C gh' τ a' w' → I a'.tmps → wpOpsIn (Fw ro) 0 cx.T ops Q rest a' w') : wpOpsIn (Fw ro) 0 cx.T ops Q (List.range' i os.length ++ rest) a w := by
  subst hall
  obtain ⟨es, τ', h1, h2, h3⟩ := runOps_sound (hst _) _ _ _ _ _ _ h
  have hot : ops.toList.toArray = ops := by simp
  rw [hot] at h1
  exact trace_in hn rest os i σ es ho (fun o ho => List.all_eq_true.1 hd o ho) hk h1 (fun gh' a' w' hs' hI' => hQ _ h3 gh' a' w' (sim_same h2 hs') hI') gh a w hs hI
/-- A region whole. -/
theorem region_in' {cx : Cx} (hst : ∀ R : Type, StepSound R cx) {id : Nat} {ops : Array Oper} {Q : Exit → Act → World → Prop} {ro : Option Nat} {I : Array Value → Prop} {σ : St} {K : St → Option R} {r : R} (hd : ops.toList.all noDefer = true) (hk : Keep I ops.toList)
    (h : runOps cx ops.toList ops.toList σ [] (fun _ τ => K τ) = some r) {C : Ctx} {gh : Gh} {a : Act} {w : World} (hn : C.n = cx.n) (hs : Sim C gh σ a w) (hI : I a.tmps)
    (hQ : ∀ τ, K τ = some r → ∀ gh' a' w', Sim C gh' τ a' w' → I a'.tmps → Q .normal a' w') : (Code.region id ops false).wpIn (Fw ro) 0 cx.T Q a w := by
  refine wpIn_region ?_
  have := ops_in (Q := Q) (ro := ro) (i := 0) hst rfl hd hk (ops := ops) (os := ops.toList) (fun j o ho => by simpa using ho) h [] hn hs hI (fun τ hK gh' a' w' hs' hI' => hQ τ hK gh' a' w' hs' hI')
  rw [List.range_eq_range']
  simpa using this
theorem region_in {cx : Cx} (hst : ∀ R : Type, StepSound R cx) {id : Nat} {ops : Array Oper} {Q : Exit → Act → World → Prop} {ro : Option Nat} {σ : St} {K : St → Option R} {r : R} (hd : ops.toList.all noDefer = true)
    (h : runOps cx ops.toList ops.toList σ [] (fun _ τ => K τ) = some r) {C : Ctx} {gh : Gh} {a : Act} {w : World} (hn : C.n = cx.n) (hs : Sim C gh σ a w)
    (hQ : ∀ τ, K τ = some r → ∀ gh' a' w', Sim C gh' τ a' w' → Q .normal a' w') : (Code.region id ops false).wpIn (Fw ro) 0 cx.T Q a w :=
  region_in' hst hd (keep_true _) h hn hs trivial fun τ hK gh' a' w' hs' _ => hQ τ hK gh' a' w' hs'
theorem region_in_d {cx : Cx} (hst : ∀ R : Type, StepSound R cx) {id : Nat} {ops : Array Oper} {Q : Exit → Act → World → Prop} {ro : Option Nat} {σ : St} {K : St → Option R} {r : R} (d : List Deferred) (hd : ops.toList.all simpleOp = true)
    (h : runOps cx ops.toList ops.toList σ [] (fun _ τ => K τ) = some r) {C : Ctx} {gh : Gh} {a : Act} {w : World} (hn : C.n = cx.n) (hs : Sim C gh σ a w)
    (hQ : ∀ τ, K τ = some r → ∀ gh' a' w', Sim C gh' τ a' w' → Q .normal (dfr d a') w') : (Code.region id ops false).wpIn (Fw ro) 0 cx.T Q (dfr d a) w := by
  refine wpIn_region ?_
  obtain ⟨es, τ', h1, h2, h3⟩ := runOps_sound (hst _) _ _ _ _ _ _ h
  have hot : ops.toList.toArray = ops := by simp
  rw [hot] at h1
  have := trace_in_d (Q := Q) (ro := ro) d hn ops.toList 0 σ es (fun j o ho => by simpa using ho) (fun o ho => List.all_eq_true.1 hd o ho) h1 (fun gh' a' w' hs' => hQ _ h3 gh' a' w' (sim_same h2 hs')) gh a w hs
  rw [List.range_eq_range']
  simpa using this

theorem wpOpsIn_cons {F : Fence} {n : Nat} {P : Program} {ops : Array Oper} {Q : Exit → Act → World → Prop} {i : Nat} {rest : List Nat} {a : Act} {w : World} {o : Oper} (ho : ops[i]? = some o) (hg : o.guard = none) (h : o.wpIn F n P a w (wpOpsIn F n P ops Q rest) Q) : wpOpsIn F n P ops Q (i :: rest) a w := by
  simp only [wpOpsIn, ho, Region.wanted, hg, if_true]
  exact h
/-! Changes beside the blocks -/
structure Aside (B : Nat) (W W' : World) : Prop where
  os : W'.os = W.os
  tape : W'.tape = W.tape
  output : W'.output = W.output
  drawn : W.drawn ≤ W'.drawn
  size : W.heap.size ≤ W'.heap.size
  cells : ∀ (k : Nat) vs t z, W.heap[k]? = some (Obj.cells vs t z) → W'.heap[k]? = some (Obj.cells vs t z)
  map : ∀ (k : Nat) e c, W.heap[k]? = some (Obj.map e c) → W'.heap[k]? = some (Obj.map e c)
  low : ∀ (k : Nat), k < B → k < W.heap.size → W'.heap[k]? = W.heap[k]?
theorem Aside.refl (B : Nat) (W : World) : Aside B W W := ⟨rfl, rfl, rfl, Nat.le_refl _, Nat.le_refl _, fun _ _ _ _ h => h, fun _ _ _ h => h, fun _ _ _ => rfl⟩
theorem Aside.alloc (B : Nat) (W : World) (o : Obj) : Aside B W (W.alloc o) := by
  have h : ∀ k, k < W.heap.size → (W.alloc o).heap[k]? = W.heap[k]? := fun k hk => Below.heap_alloc _ _ k hk
  exact ⟨rfl, rfl, rfl, Nat.le_refl _, by simp, fun k vs t z e => (h k (Array.getElem?_eq_some_iff.1 e).1).trans e, fun k _ _ e => (h k (Array.getElem?_eq_some_iff.1 e).1).trans e, fun k _ hk => h k hk⟩
theorem Aside.putObj {B : Nat} {W : World} {l : Nat} {o o' : Obj} (hl : W.heap[l]? = some o) (hB : B ≤ l) (h1 : ∀ vs t z, o ≠ .cells vs t z) (h2 : ∀ e c, o ≠ .map e c) : Aside B W (W.putObj l o') := by
  have h : ∀ k, k ≠ l → (W.putObj l o').heap[k]? = W.heap[k]? := fun k hk => World.putObj_heap_other hk
  refine ⟨rfl, rfl, rfl, Nat.le_refl _, by simp [World.putObj], fun k vs t z e => (h k ?_).trans e, fun k _ _ e => (h k ?_).trans e, fun k hk _ => h k (by omega)⟩
  · rintro rfl; rw [hl] at e; cases e; exact h1 _ _ _ rfl
  · rintro rfl; rw [hl] at e; cases e; exact h2 _ _ rfl
theorem Aside.trans {B : Nat} {W W' W'' : World} (h : Aside B W W') (h' : Aside B W' W'') : Aside B W W'' :=
  ⟨h'.os.trans h.os, h'.tape.trans h.tape, h'.output.trans h.output, Nat.le_trans h.drawn h'.drawn, Nat.le_trans h.size h'.size, fun k vs t z e => h'.cells k vs t z (h.cells k vs t z e), fun k a c e => h'.map k a c (h.map k a c e),
   fun k hk hk' => (h'.low k hk (Nat.lt_of_lt_of_le hk' h.size)).trans (h.low k hk hk')⟩
theorem blk_obj {g : Gh} {m : Mem} {W : World} (H : HeapOK g m W) {id : Nat} {b : Blk} (hb : m id = some b) (hl : b.live = true) {k : Nat} (hk : g.blk id = some k) :
    (∃ vs t z, W.heap[k]? = some (.cells vs t z)) ∨ ∃ e c, W.heap[k]? = some (.map e c) := by
  have h := H.blk id b hb
  cases b with
  | dead => cases hl
  | box l =>
    obtain ⟨g', tid, vals, h1, h2, _⟩ := h
    have : k = g' := by rw [Gh.blk, h1] at hk; injection hk with hk; exact hk.symm
    subst this
    exact .inl ⟨_, _, _, h2⟩
  | lst e r xs fz =>
    obtain ⟨vs, h1, _⟩ := h
    rcases h1.2 with ⟨h2, _⟩ | ⟨gb, cap, cur, h2, _, h3, _⟩
    · rw [Gh.blk, h2] at hk; cases hk
    · have : k = gb := by rw [Gh.blk, h2] at hk; injection hk with hk; exact hk.symm
      subst this
      exact .inl ⟨_, _, _, h3⟩
  | mp kr es =>
    obtain ⟨_, g', ents, clock, h1, h2, _⟩ := h
    have : k = g' := by rw [Gh.blk, h1] at hk; injection hk with hk; exact hk.symm
    subst this
    exact .inr ⟨_, _, h2⟩
theorem cell_cells {W : World} {x : Addr} {v : Value} (hs : x.spot = none) (h : W.cell? x = some v) : ∃ vs t z, W.heap[x.block]? = some (.cells vs t z) := by
  obtain ⟨b, o, s⟩ := x
  simp only at hs
  subst hs
  unfold World.cell? at h
  simp only at h ⊢
  split at h
  · rename_i cs t z heq; exact ⟨_, _, _, heq⟩
  · cases h
theorem aside {B : Nat} {g1 : Gh} {m1 : Mem} {W1 : World} {g : Gh} {m : Mem} {W W' : World} (H : HeapOK g m W) (T : Tr g1 m1 W1 g m W) (hB : W1.heap.size ≤ B) (h : Aside B W W') : HeapOK g m W' ∧ Tr g1 m1 W1 g m W' := by
  have hk : ∀ (k : Nat), ((∃ vs t z, W.heap[k]? = some (Obj.cells vs t z)) ∨ ∃ e c, W.heap[k]? = some (Obj.map e c)) → W'.heap[k]? = W.heap[k]? := by
    rintro k (⟨vs, t, z, e⟩ | ⟨e, c, e'⟩)
    · rw [h.cells _ _ _ _ e, e]
    · rw [h.map _ _ _ e', e']
  have hc : ∀ x, g.S x → W'.cell? x = W.cell? x := fun x hx => by
    obtain ⟨hs, v, hv⟩ := H.st x hx
    exact World.cell?_of_block (hk _ (.inl (cell_cells hs hv)))
  refine ⟨⟨fun id b hb => blkOK_same (gh := g) (gh' := g) (m := m) (m' := m) (fun _ h => h) hc (fun id hid => ⟨hid, rfl⟩) (by rw [hb]; simp) (fun hl k hgk => hk k (blk_obj H hb hl hgk)) (H.blk id b hb), H.inj, H.sep, fun x hx => ?_⟩, ?_⟩
  · obtain ⟨hs, v, hv⟩ := H.st x hx
    exact ⟨hs, v, by rw [hc x hx]; exact hv⟩
  · exact ⟨h.os.trans T.os, h.tape.trans T.tape, h.output.trans T.output, Nat.le_trans T.size h.size, fun k hk' hn => by
      rw [h.low k (Nat.lt_of_lt_of_le hk' hB) (Nat.lt_of_lt_of_le hk' T.size)]; exact T.same k hk' hn, T.S, fun x hx => by
      rw [hc x (T.S x hx)]; exact T.scell x hx, T.newS, T.ids, T.pin, Nat.le_trans T.drawn h.drawn⟩
theorem aside_cell {B : Nat} {g : Gh} {m : Mem} {W W' : World} (H : HeapOK g m W) (h : Aside B W W') : ∀ x, g.S x → W'.cell? x = W.cell? x := fun x hx => by
  obtain ⟨hs, v, hv⟩ := H.st x hx
  obtain ⟨vs, t, z, e⟩ := cell_cells hs hv
  exact World.cell?_of_block (by rw [h.cells _ _ _ _ e, e])
def flatC : AC → Bool
  | .c .str _ => true
  | .c (.int _) _ => true
  | .c .bool _ => true
  | _ => false
theorem repCs_flat {gh gh' : Gh} {m m' : Mem} {w w' : World} {l : List AC} {vs : List Value} (hl : l.all flatC = true) (h : RepCs gh m w l vs) : RepCs gh' m' w' l vs := by
  refine all2_of_mem (fun a ha v hv => ?_) h
  have := List.all_eq_true.1 hl a ha
  unfold flatC at this
  split at this
  · exact hv
  · exact hv
  · exact hv
  · cases this
/-- What is no block stands as it was. -/
theorem other_same {g0 : Gh} {m0 : Mem} {W0 : World} {g : Gh} {m : Mem} {W : World} (H : HeapOK g0 m0 W0) (T : Tr g0 m0 W0 g m W) {l : Nat} {o : Obj} (hl : W0.heap[l]? = some o) (h1 : ∀ vs t z, o ≠ .cells vs t z) (h2 : ∀ e c, o ≠ .map e c) : W.heap[l]? = some o := by
  rw [T.same l (Array.getElem?_eq_some_iff.1 hl).1 fun id b hb hlv hk => ?_, hl]
  rcases blk_obj H hb hlv hk with ⟨vs, t, z, e⟩ | ⟨e, c, e'⟩
  · rw [hl] at e; cases e; exact h1 _ _ _ rfl
  · rw [hl] at e'; cases e'; exact h2 _ _ rfl
theorem tr_aside {g0 : Gh} {W0 : World} {g : Gh} {m : Mem} {W : World} (B : Nat) (T : Tr g0 (fun _ => none) W0 g m W) : Aside B W0 W := by
  have h : ∀ k, k < W0.heap.size → W.heap[k]? = W0.heap[k]? := fun k hk => T.same k hk fun id b hb => by cases hb
  exact ⟨T.os, T.tape, T.output, T.drawn, T.size, fun k vs t z e => (h k (Array.getElem?_eq_some_iff.1 e).1).trans e, fun k _ _ e => (h k (Array.getElem?_eq_some_iff.1 e).1).trans e, fun k _ hk => h k hk⟩
theorem tr_join {g0 : Gh} {m0 : Mem} {w0 : World} {g : Gh} {m : Mem} {w : World} {g1 : Gh} {m1 : Mem} {g2 : Gh} {m2 : Mem} {w2 : World} (h : Tr g0 m0 w0 g m w) (hS : g1.S = g.S)
    (hids : ∀ id b, m1 id = some b → b.live = true → ∀ k, g1.blk id = some k → w0.heap.size ≤ k ∨ ∃ j c, m0 j = some c ∧ c.live = true ∧ g0.blk j = some k)
    (k : Tr g1 m1 w g2 m2 w2) (hpin : ∀ id, pin id = true → m2 id ≠ none → m0 id ≠ none ∧ g2.val id = g0.val id) : Tr g0 m0 w0 g2 m2 w2 where
  os := k.os.trans h.os
  tape := k.tape.trans h.tape
  output := k.output.trans h.output
  size := Nat.le_trans h.size k.size
  same := fun i hi hn => by
    rw [k.same i (Nat.lt_of_lt_of_le hi h.size) (fun id b h1 h2 h3 => ?_), h.same i hi hn]
    rcases hids id b h1 h2 i h3 with h4 | ⟨j, c, h4, h5, h6⟩
    · omega
    · exact hn j c h4 h5 h6
  S := fun x hx => k.S _ (by rw [hS]; exact h.S _ hx)
  scell := fun x hx => (k.scell _ (by rw [hS]; exact h.S _ hx)).trans (h.scell _ hx)
  newS := fun x hx => by
    rcases k.newS x hx with h1 | h1 | ⟨id, b, h1, h2, h3⟩
    · rw [hS] at h1; exact h.newS x h1
    · exact .inr (.inl (Nat.le_trans h.size h1))
    · rcases hids id b h1 h2 _ h3 with h4 | h4
      · exact .inr (.inl h4)
      · exact .inr (.inr h4)
  ids := fun id b h1 h2 i h3 => by
    rcases k.ids id b h1 h2 i h3 with h4 | ⟨j, c, h4, h5, h6⟩
    · exact .inl (Nat.le_trans h.size h4)
    · exact hids j c h4 h5 i h6
  pin := hpin
  drawn := Nat.le_trans h.drawn k.drawn
theorem run_callyield {P : Program} {o : Oper} {c : Call} {l : Nat} {x : Operand} (ho : o.op = .call c) (hc : c.callee = .value x) (a : Act) (he : a.eval x = .func (.yield l) #[] #[]) (w : World) :
    (execOp a.eval o).run P w = (Instr.yield l (c.args.map a.eval)).run P w := by
  simp only [execOp, ho, Sem.run_bind, resolve, hc, he, Deferred.ofValue, Sem.run_pure, Result.andThen_ok, invoke]
  simp
def opsOf : Code → Array Oper
  | .region _ ops _ => ops
  | _ => #[]
def rangeOf : Code → Code × Code
  | .rangeFunc _ _ a b => (a, b)
  | .block _ c => rangeOf c
  | .seq a b => rangeOf b
  | _ => (.skip, .skip)
end Go.Vx
namespace Go.Vx.Z
open Go Go.Vx Go.Proofs Go.RowKit
set_option linter.unusedVariables false
set_option linter.unusedSimpArgs false
set_option maxRecDepth 1000000
set_option maxHeartbeats 4000000
noncomputable def b68 : Code := Tryd.f68.body.getD .skip
noncomputable def b44 : Code := Tryd.f44.body.getD .skip
noncomputable def cx68 : Cx := ⟨Tryd.prog, [], [11], 13, [], []⟩
noncomputable def cx44 : Cx := ⟨Tryd.prog, [], [], 16, [], []⟩
noncomputable def as68 : Code := (rangeOf (sub [1, 0] b68)).1
noncomputable def bo68 : Code := (rangeOf (sub [1, 0] b68)).2
theorem b68_eq : b68 = .seq (.region 0 (opsOf (sub [0] b68)) false) (.seq (.seq (.region 1 (opsOf (sub [1, 0, 0] b68)) false) (.block 0 (.rangeFunc (.tmp 6) #[7] (.region 2 (opsOf as68) false) (.block 1 (.region 3 (opsOf (sub [0] bo68)) false)))))
  (.seq (.region 4 (opsOf (sub [1, 1, 0] b68)) false) .ret)) := by kernel_rfl
theorem b44_eq : b44 = .seq (.region 0 (opsOf (sub [0] b44)) false) (.block 0 (.loop (.seq (.region 1 (opsOf (sub [1, 0, 0, 0] b44)) false) (.seq (.cond (.tmp 8) .skip (.exit 0)) (.seq
  (.block 1 (.seq (.region 2 (opsOf (sub [1, 0, 0, 1, 1, 0, 0, 0] b44)) false) (.seq (.region 3 (opsOf (sub [1, 0, 0, 1, 1, 0, 0, 1, 0] b44)) false) (.cond (.tmp 14) .ret .skip)))) (.region 4 (opsOf (sub [1, 0, 0, 1, 1, 1] b44)) false)))))) := by kernel_rfl
@[reducible] def shA : Shape := ⟨[(2, .one (.ptr 100001 0)), (7, .row (rowShape r0))], [(100001, .box [.own 200001]), (200001, .lst 39 r0 false), (100000, .box [.d (.list r0)])]⟩
@[reducible] def shB : Shape := ⟨[(2, .one (.ptr 100001 0)), (5, .one (.ptr 200005 0))], [(100001, .box [.own 200001]), (200001, .lst 39 r0 false), (100000, .box [.d (.list r0)]), (200005, .box (rowShape r0))]⟩
@[reducible] def shC : Shape := ⟨[], [(100001, .box [.own 200001]), (200001, .lst 39 r0 false), (100000, .box [.d (.list r0)])]⟩
@[reducible] def shD : Shape := ⟨[(2, .one (.ptr 100001 0))], [(100001, .box [.own 200001]), (200001, .lst 39 r0 false), (100000, .box [.d (.list r0)])]⟩
@[reducible] def shE : Shape := ⟨[(4, .one (.own 200000))], [(100000, .box [.d (.list r0)]), (200000, .lst 39 r0 false)]⟩
@[reducible] def sh68 : Shape := ⟨[(0, .one .nilS), (1, .one (.clo 44 [some (100000, 0)]))], [(100000, .box [.d (.list r0)])]⟩
@[reducible] def out68 : Shape := ⟨[(0, .one (.own 200000))], [(100000, .box [.d (.list r0)]), (200000, .lst 39 r0 false)]⟩
@[reducible] def shH : Shape := ⟨[(2, .one (.ptr 200002 0)), (6, .one (.clo 44 [some (100000, 0)]))], [(200002, .box [.nilS]), (100000, .box [.d (.list r0)])]⟩
theorem st68 (R : Type) : StepSound R cx68 := step_sound (all_fe (P := Tryd.prog) (l := []) trivial) R
theorem st44 (R : Type) : StepSound R cx44 := step_sound (all_fe (P := Tryd.prog) (l := []) trivial) R
theorem runA (pre xs : List r0.D) (x : r0.D) : runOps cx68 (opsOf as68).toList (opsOf as68).toList (embed shA (x.1, x.2.1, x.2.2.1, x.2.2.2.1, x.2.2.2.2.1, pre, xs, ())) [] (fun _ τ => extract shB τ) = some (pre, xs, x.1, x.2.1, x.2.2.1, x.2.2.2.1, x.2.2.2.2.1, ()) := by kernel_rfl
theorem runB (pre xs : List r0.D) (x : r0.D) : runOps cx68 (opsOf (sub [0] bo68)).toList (opsOf (sub [0] bo68)).toList (embed shB (pre, xs, x.1, x.2.1, x.2.2.1, x.2.2.2.1, x.2.2.2.2.1, ())) [] (fun _ τ => extract shC τ) =
  bif decide (List.length pre + List.length [(x.1, x.2.1, x.2.2.1, x.2.2.2.1, x.2.2.2.2.1, ())] ≤ 2513169434916) then some (pre ++ [(x.1, x.2.1, x.2.2.1, x.2.2.2.1, x.2.2.2.2.1, ())], xs, ()) else none := by kernel_rfl
theorem runH (xs : List r0.D) : (runOps cx68 (opsOf (sub [0] b68)).toList (opsOf (sub [0] b68)).toList (embed sh68 (xs, ())) [] fun _ τ => runOps cx68 (opsOf (sub [1, 0, 0] b68)).toList (opsOf (sub [1, 0, 0] b68)).toList τ [] (fun _ τ => extract shH τ)) = some (xs, ()) := by kernel_rfl
theorem runE (pre xs : List r0.D) : runOps cx68 (opsOf (sub [1, 1, 0] b68)).toList (opsOf (sub [1, 1, 0] b68)).toList (embed shD (pre, xs, ())) [] (fun _ τ => extract shE τ) = some (xs, pre, ()) := by kernel_rfl
/-- Between two rounds. -/
def memC (pre xs : List r0.D) : Mem := (embed shC (pre, xs, ())).blk
structure JJ (g1 : Gh) (W1 : World) (l D : Nat) (rec : Loop) (xs pre : List r0.D) (W : World) : Prop where
  h : ∃ gh, HeapOK gh (memC pre xs) W ∧ Tr g1 (memC [] xs) W1 gh (memC pre xs) W
  L : W.heap[l]? = some (.loop rec)
  D : W.heap[D]? = some (.deferred (some []))
structure RecOK (g1 : Gh) (rec : Loop) : Prop where
  state : rec.state = .ready
  pending : rec.pending = none
  params : rec.params = #[7]
  asg : rec.assign = .region 2 (opsOf as68) false
  body : rec.body = .block 1 (.region 3 (opsOf (sub [0] bo68)) false)
  size : rec.tmps.size = 13
  ptr : ∃ b, g1.val 100001 = .pointer (some ⟨b, 0, none⟩) ∧ rec.tmps.getD 2 undef = .pointer (some ⟨b, 0, none⟩)
theorem lookup_ne {pre xs : List r0.D} : memC pre xs 100001 ≠ none := by simp [memC, St.blk, embed, emMem, emEnv, lookM]
theorem yield_ok {g1 : Gh} {W1 : World} {l D : Nat} {rec : Loop} {xs pre : List r0.D} {W : World} (hr : RecOK g1 rec) (hl : W1.heap.size ≤ l) (hD : W1.heap.size ≤ D) (hlD : D ≠ l) (hJ : JJ g1 W1 l D rec xs pre W) (hlim : pre.length + 1 ≤ 2513169434916)
    (x : r0.D) (vs : Array Value) (hx : RepCs g1 (fun _ => none) W (cellsOf r0 x) vs.toList) :
    YieldAt Fence.wide 0 Tryd.prog l #[.agg vs] W fun e W' => e = .returned (.bool true) ∧ JJ g1 W1 l D rec xs (pre ++ [x]) W' := by
  obtain ⟨⟨gh, H, T⟩, hL, hDD⟩ := hJ
  have hy := run_yield (P := Tryd.prog) (args := #[Value.agg vs]) hL (by rw [hr.params]; rfl)
  rw [hr.params] at hy
  have hzip : (((#[7] : Array Tmp).zip #[Value.agg vs]).foldl (fun tmps (x : Tmp × Value) => tmps.setIfInBounds x.1 x.2) rec.tmps) = rec.tmps.setIfInBounds 7 (.agg vs) := by simp
  refine ⟨rec.fn, rec.tmps.setIfInBounds 7 (.agg vs), rec.assign, rec.body, by rw [← hzip]; exact hy, ?_⟩
  refine roundIn_of_wpIn trivial ?_
  rw [hr.asg]
  show (Code.region 2 (opsOf as68) false).wpIn (Fw (some l)) 0 cx68.T _ _ W
  obtain ⟨b, hb1, hb2⟩ := hr.ptr
  have hb : gh.val 100001 = .pointer (some ⟨b, 0, none⟩) := by rw [(T.pin 100001 rfl lookup_ne).2]; exact hb1
  let C : Ctx := ⟨gh, memC pre xs, W, 13⟩
  refine region_in (C := C) (gh := gh) st68 (by kernel_rfl) (runA pre xs x) rfl ⟨rfl, ?_, ?_, H, Tr.refl _ _ _⟩ ?_
  · show (rec.tmps.setIfInBounds 7 (.agg vs)).size = 13
    rw [Array.size_setIfInBounds]
    exact hr.size
  · intro s
    have he : (embed shA (x.1, x.2.1, x.2.2.1, x.2.2.2.1, x.2.2.2.2.1, pre, xs, ())).env = [(2, .v (.one (.ptr 100001 0))), (7, .v (.row (cellsOf r0 x)))] := rfl
    show RepV gh (memC pre xs) W (lookE s (embed shA (x.1, x.2.1, x.2.2.1, x.2.2.2.1, x.2.2.2.2.1, pre, xs, ())).env) ((rec.tmps.setIfInBounds 7 (.agg vs)).getD s undef)
    rw [he]
    have hsz := hr.size
    match s with
    | 2 =>
      refine ⟨lookup_ne, b, hb, ?_⟩
      rw [← hb2]
      simp [Array.getD_eq_getD_getElem?]
    | 7 =>
      refine ⟨vs, ?_, repCs_mono T.S (fun _ _ => rfl) (fun id hid => absurd rfl hid) hx⟩
      simp [Array.getD_eq_getD_getElem?, hsz]
    | 0 | 1 | 3 | 4 | 5 | 6 => trivial
    | n + 8 => trivial
  intro τ hτ gh1 a1 w1 hs1
  obtain ⟨gh2, hs2⟩ := sim_extract hτ hs1
  have hlt : l < W.heap.size := (Array.getElem?_eq_some_iff.1 hL).1
  have H2 : HeapOK gh2 (embed shB (pre, xs, x.1, x.2.1, x.2.2.1, x.2.2.2.1, x.2.2.2.2.1, ())).blk w1 := hs2.heap
  have T2 : Tr gh (memC pre xs) W gh2 (embed shB (pre, xs, x.1, x.2.1, x.2.2.1, x.2.2.2.1, x.2.2.2.2.1, ())).blk w1 := hs2.tr
  have hL1 := other_same H T2 hL (by simp) (by simp)
  have hD1 := other_same H T2 hDD (by simp) (by simp)
  have hA := Aside.putObj (o' := .loop { rec with state := .busy }) hL1 hl (by simp) (by simp)
  have hg2 := aside H2 (T.trans T2) (Nat.le_refl _) hA
  have hc2 := aside_cell H2 hA
  have hL2 : (w1.putObj l (.loop { rec with state := .busy })).heap[l]? = some (.loop { rec with state := .busy }) := World.putObj_heap_same (Array.getElem?_eq_some_iff.1 hL1).1
  have hD2 : (w1.putObj l (.loop { rec with state := .busy })).heap[D]? = some (.deferred (some [])) := (World.putObj_heap_other hlD).trans hD1
  have hbr := run_beginRound (P := Tryd.prog) hL1 hr.state
  generalize w1.putObj l (.loop { rec with state := .busy }) = w2 at hg2 hL2 hD2 hc2 hbr
  obtain ⟨H3, T3⟩ := hg2
  refine ⟨w2, hbr, ?_⟩
  rw [hr.body]
  refine wpIn_block ?_
  show (Code.region 3 (opsOf (sub [0] bo68)) false).wpIn (Fw (some l)) 0 cx68.T _ _ _
  have hB : runOps cx68 (opsOf (sub [0] bo68)).toList (opsOf (sub [0] bo68)).toList (embed shB (pre, xs, x.1, x.2.1, x.2.2.1, x.2.2.2.1, x.2.2.2.2.1, ())) [] (fun _ τ => extract shC τ) = some (pre ++ [x], xs, ()) := by
    rw [runB]
    have : decide (List.length pre + List.length [(x.1, x.2.1, x.2.2.1, x.2.2.2.1, x.2.2.2.2.1, ())] ≤ 2513169434916) = true := decide_eq_true hlim
    rw [this]
    rfl
  refine region_in (C := ⟨gh2, (embed shB (pre, xs, x.1, x.2.1, x.2.2.1, x.2.2.2.1, x.2.2.2.2.1, ())).blk, w2, 13⟩) (gh := gh2) st68 (by kernel_rfl) hB rfl ⟨hs2.defers, hs2.size, fun s => repV_mono (g := gh2) (w := w1) (fun _ h => h) hc2 (fun id hid => ⟨hid, rfl⟩) (hs2.env s), H3, Tr.refl _ _ _⟩ ?_
  intro τ3 hτ3 gh3 a3 w3 hs3
  obtain ⟨gh4, hs4⟩ := sim_extract hτ3 hs3
  have H4 : HeapOK gh4 (memC (pre ++ [x]) xs) w3 := hs4.heap
  have T4 : Tr gh2 _ w2 gh4 (memC (pre ++ [x]) xs) w3 := hs4.tr
  have hL3 := other_same H3 T4 hL2 (by simp) (by simp)
  have hD3 := other_same H3 T4 hD2 (by simp) (by simp)
  refine ⟨_, _, run_endRound none hL3, rfl, ?_⟩
  have hrec : ({ { rec with state := .busy } with state := if (none : Option Code).isNone then .ready else .done, pending := none } : Loop) = rec := by
    have h1 := hr.state; have h2 := hr.pending
    cases rec; simp_all
  rw [hrec]
  have hg5 := aside H4 (T3.trans T4) (Nat.le_refl _) (Aside.putObj (o' := .loop rec) hL3 hl (by simp) (by simp))
  exact ⟨⟨gh4, hg5⟩, World.putObj_heap_same (Array.getElem?_eq_some_iff.1 hL3).1, (World.putObj_heap_other hlD).trans hD3⟩
theorem ops44_0 : opsOf (sub [0] b44) = [{ dst := some 5, op := Go.Op.load 35 (Go.Operand.tmp 1), type := 35, pos := "iter.go:39", after := #[], guard := none },
              { dst := some 6, op := Go.Op.call { callee := Go.Callee.builtin Go.Builtin.len, args := #[Go.Operand.tmp 5], argTypes := #[35] }, type := 3, pos := "iter.go:39",
                after := #[{ on := 0, ground := Go.Ground.data }], guard := none },
              { dst := some 7, op := Go.Op.move (Go.Operand.const (Go.Value.int Go.IntKind.i64 0)), type := 3, pos := "iter.go:39", after := #[], guard := none }].toArray := by kernel_rfl
theorem reg84_0 {l Bx : Nat} {p : Option Addr} {n cap : Nat} {W : World} {Q : Exit → Act → World → Prop} (hc : W.cell? ⟨Bx, 0, none⟩ = some (.slice p n cap))
    (h : Q .normal ⟨#[.func (.yield l) #[] #[], .pointer (some ⟨Bx, 0, none⟩), undef, undef, undef, .slice p n cap, .int .i64 n, .int .i64 0, undef, undef, undef, undef, undef, undef, undef, undef], []⟩ W) :
    (Code.region 0 (opsOf (sub [0] b44)) false).wpIn Fence.wide 0 Tryd.prog Q ⟨#[.func (.yield l) #[] #[], .pointer (some ⟨Bx, 0, none⟩), undef, undef, undef, undef, undef, undef, undef, undef, undef, undef, undef, undef, undef, undef], []⟩ W := by
  rw [ops44_0]
  have t29 := Tryd.underlying35; have a29 := Tryd.isAgg35; have z29 := Tryd.sizeOf35; have v29 := Tryd.zeroValue35
  have t3 := Tryd.underlying3; have a3 := Tryd.isAgg3; have z3 := Tryd.sizeOf3; have v3 := Tryd.zeroValue3
  have u29 := run_underlying t29; have u3 := run_underlying t3
  gi_wp2
  exact h
noncomputable def sv44 (u : Value) (xs : List r0.D) (n i : Int) : St := ⟨[(0, .v (.one (.raw u))), (5, .v (.one (.c (.list r0) xs))), (6, .v (.one (.c (.int .i64) n))), (7, .v (.one (.c (.int .i64) i)))], []⟩
noncomputable def sw44 : St := ⟨[(13, .v (.one (.c .bool true)))], []⟩
noncomputable def q44 : List Oper := (opsOf (sub [1, 0, 0, 1, 1, 0, 0, 1, 0] b44)).toList
theorem run44_1 (u : Value) (xs : List r0.D) (n i : Int) : runOps cx44 (opsOf (sub [1, 0, 0, 0] b44)).toList (opsOf (sub [1, 0, 0, 0] b44)).toList (sv44 u xs n i) [] (fun _ τ => some (τ.get 8)) = some (.v (.one (.c .bool (decide (i < n))))) := by kernel_rfl
theorem run44_2 (u : Value) (xs : List r0.D) (n i : Int) : runOps cx44 (opsOf (sub [1, 0, 0, 1, 1, 0, 0, 0] b44)).toList (opsOf (sub [1, 0, 0, 1, 1, 0, 0, 0] b44)).toList (sv44 u xs n i) [] (fun _ τ => runOps cx44 q44 (q44.take 2) τ [] fun _ τ => some (τ.get 11, τ.get 12)) =
  bif decide (Int.ofNat 0 ≤ i) then Option.bind xs[Int.toNat i]? fun (y : r0.D) => some (.v (.one (.raw u)), .v (.row (cellsOf r0 y))) else none := by kernel_rfl
theorem run44_3 : runOps cx44 q44 (q44.drop 3) sw44 [] (fun _ τ => some (τ.get 14)) = some (.v (.one (.c .bool false))) := by kernel_rfl
theorem run44_4 (u : Value) (xs : List r0.D) (n i : Int) : runOps cx44 (opsOf (sub [1, 0, 0, 1, 1, 1] b44)).toList (opsOf (sub [1, 0, 0, 1, 1, 1] b44)).toList (sv44 u xs n i) [] (fun _ τ => some (τ.get 7)) = some (.v (.one (.c (.int .i64) (IntKind.wrap IntKind.i64 (i + Int.ofNat 1))))) := by kernel_rfl
section
variable {g1 : Gh} {W1 : World} {l D : Nat} {rec : Loop} {xs pre : List r0.D}
theorem JJ.grow {W W' : World} {g g' : Gh} {m' : Mem} (h : JJ g1 W1 l D rec xs pre W) (T : Tr g (fun _ => none) W g' m' W') : JJ g1 W1 l D rec xs pre W' := by
  obtain ⟨⟨gh, H, T0⟩, hL, hD⟩ := h
  have hk : ∀ k, k < W.heap.size → W'.heap[k]? = W.heap[k]? := fun k hk => T.same k hk fun id b hb => by cases hb
  exact ⟨⟨gh, aside H T0 (Nat.le_refl _) (tr_aside _ T)⟩, (hk l (Array.getElem?_eq_some_iff.1 hL).1).trans hL, (hk D (Array.getElem?_eq_some_iff.1 hD).1).trans hD⟩
theorem JJ.cell {W : World} (h : JJ g1 W1 l D rec xs pre W) : ∀ x, g1.S x → W.cell? x = W1.cell? x := fun x hx => by
  obtain ⟨⟨gh, H, T0⟩, _⟩ := h
  exact T0.scell x hx
theorem JJ.none {W : World} (h : JJ g1 W1 l D rec xs pre W) : HeapOK g1 (fun _ => none) W := by
  obtain ⟨⟨gh, H, T0⟩, _⟩ := h
  exact ⟨fun id b h => (by cases h), fun i j b c h => (by cases h), fun x hx id b h => (by cases h), fun x hx => H.st x (T0.S x hx)⟩
structure In44 (g1 : Gh) (W1 : World) (l D : Nat) (rec : Loop) (xs : List r0.D) (v : Value) (i : Nat) (a : Act) (W : World) : Prop where
  defers : a.defers = []
  size : a.tmps.size = 16
  t0 : a.tmps.getD 0 undef = .func (.yield l) #[] #[]
  t5 : a.tmps.getD 5 undef = v
  t6 : a.tmps.getD 6 undef = .int .i64 xs.length
  t7 : a.tmps.getD 7 undef = .int .i64 i
  jj : JJ g1 W1 l D rec xs (xs.take i) W
theorem In44.sim {v : Value} {i : Nat} {a : Act} {W : World} (hv : RepD g1.S W1 (.list r0) xs v) (h : In44 g1 W1 l D rec xs v i a W) : Sim ⟨g1, fun _ => none, W, 16⟩ g1 (sv44 (.func (.yield l) #[] #[]) xs xs.length i) a W := by
  refine ⟨h.defers, h.size, fun s => ?_, h.jj.none, Tr.refl _ _ _⟩
  show RepV g1 (fun _ => none) W (lookE s (sv44 (.func (.yield l) #[] #[]) xs xs.length i).env) _
  match s with
  | 0 => exact ⟨h.t0, rfl, rfl⟩
  | 5 =>
    show RepD g1.S W (.list r0) xs _
    rw [h.t5]
    exact repD_mono (fun _ h => h) h.jj.cell hv
  | 6 => exact h.t6
  | 7 => exact h.t7
  | 1 | 2 | 3 | 4 => trivial
  | n + 8 => trivial
abbrev Fix (l : Nat) (v n i : Value) (t : Array Value) : Prop := t.getD 0 undef = .func (.yield l) #[] #[] ∧ t.getD 5 undef = v ∧ t.getD 6 undef = n ∧ t.getD 7 undef = i
theorem fix_keep {v n i : Value} {os : List Oper} (h0 : os.all (fun o => match o.dst with | some d => !Nat.beq d 0 | none => true) = true) (h5 : os.all (fun o => match o.dst with | some d => !Nat.beq d 5 | none => true) = true)
    (h6 : os.all (fun o => match o.dst with | some d => !Nat.beq d 6 | none => true) = true) (h7 : os.all (fun o => match o.dst with | some d => !Nat.beq d 7 | none => true) = true) : Keep (Fix l v n i) os :=
  keep_and (keep_slot h0) (keep_and (keep_slot h5) (keep_and (keep_slot h6) (keep_slot h7)))
theorem values_ok {W0 : World} {Bx : Nat} {v : Value} (hr : RecOK g1 rec) (hl : W1.heap.size ≤ l) (hD : W1.heap.size ≤ D) (hlD : D ≠ l) (hJ : JJ g1 W1 l D rec xs [] W0) (hv : RepD g1.S W1 (.list r0) xs v) (hc : W0.cell? ⟨Bx, 0, none⟩ = some v) (hlim : xs.length ≤ 2513169434916) :
    CallsIn Fence.wide 0 Tryd.prog 44 #[.func (.yield l) #[] #[], .pointer (some ⟨Bx, 0, none⟩)] W0 fun e W' => (∃ u, e = .returned u) ∧ JJ g1 W1 l D rec xs xs W' := by
  have hb : Tryd.f44.body = some b44 := by kernel_rfl
  have hf : Tryd.prog.funcs[44]? = some Tryd.f44 := by kernel_rfl
  refine callsIn_of_wp hf hb trivial ?_
  have ht : (#[Value.func (.yield l) #[] #[], Value.pointer (some ⟨Bx, 0, none⟩)] ++ Array.replicate (Tryd.f44.ntmps - (#[Value.func (.yield l) #[] #[], Value.pointer (some ⟨Bx, 0, none⟩)] : Array Value).size) undef) =
    #[.func (.yield l) #[] #[], .pointer (some ⟨Bx, 0, none⟩), undef, undef, undef, undef, undef, undef, undef, undef, undef, undef, undef, undef, undef, undef] := rfl
  rw [ht, b44_eq]
  obtain ⟨p, cap, hvs, _⟩ := repD_list.1 hv
  refine wpIn_seq (reg84_0 (by rw [hc, hvs]) ?_)
  rw [← hvs]
  show Code.wpIn _ _ _ _ _ _ _
  refine wpIn_block (wpIn_loop (fun a W => ∃ i, i ≤ xs.length ∧ In44 g1 W1 l D rec xs v i a W) (fun a _ => match a.tmps.getD 7 undef with | .int _ z => xs.length - z.toNat | _ => 0) ⟨0, Nat.zero_le _, ⟨rfl, rfl, rfl, rfl, rfl, rfl, by simpa using hJ⟩⟩ ?_)
  rintro a W ⟨i, hi, hin⟩
  have hS := hin.sim hv
  have hfix : Fix l v (.int .i64 xs.length) (.int .i64 i) a.tmps := ⟨hin.t0, hin.t5, hin.t6, hin.t7⟩
  refine wpIn_seq ?_
  refine region_in' (ro := none) (cx := cx44) st44 (by kernel_rfl) (fix_keep (l := l) (v := v) (n := .int .i64 xs.length) (i := .int .i64 i) (by kernel_rfl) (by kernel_rfl) (by kernel_rfl) (by kernel_rfl)) (run44_1 _ xs xs.length i) rfl hS hfix ?_
  intro τ hτ gh1 a1 w1 hs1 ⟨k0, k5, k6, k7⟩
  injection hτ with hτ
  have h8 : a1.tmps.getD 8 undef = .bool (decide ((i : Int) < xs.length)) := by
    have := hs1.env 8
    rw [hτ] at this
    exact this
  have hin1 : In44 g1 W1 l D rec xs v i a1 w1 := ⟨hs1.defers, hs1.size, k0, k5, k6, k7, hin.jj.grow hs1.tr⟩
  refine wpIn_seq (wpIn_cond_split (t := decide ((i : Int) < xs.length)) h8 (fun hlt => wpIn_skip ?_) (fun hge => wpIn_exit ?_))
  · -- an element
    have hlt : i < xs.length := by simpa using hlt
    refine wpIn_seq (wpIn_block (wpIn_seq ?_))
    have hy : xs[i]? = some xs[i] := List.getElem?_eq_getElem hlt
    have hrun := run44_2 (.func (.yield l) #[] #[]) xs xs.length i
    rw [show decide (Int.ofNat 0 ≤ (i : Int)) = true by simp, cond_true, show Int.toNat (i : Int) = i from rfl, hy, Option.bind_some] at hrun
    refine region_in' (ro := none) (cx := cx44) st44 (by kernel_rfl) (fix_keep (l := l) (v := v) (n := .int .i64 xs.length) (i := .int .i64 i) (by kernel_rfl) (by kernel_rfl) (by kernel_rfl) (by kernel_rfl)) hrun rfl (hin1.sim hv) ⟨k0, k5, k6, k7⟩ ?_
    intro τ2 hτ2 gh2 a2 w2 hs2 hf2
    show Code.wpIn _ _ _ _ _ _ _
    refine wpIn_seq (wpIn_region ?_)
    rw [show List.range (opsOf (sub [1, 0, 0, 1, 1, 0, 0, 1, 0] b44)).size = List.range' 0 (q44.take 2).length ++ [2, 3] by kernel_rfl]
    refine ops_in (ro := none) (cx := cx44) st44 (ops := opsOf (sub [1, 0, 0, 1, 1, 0, 0, 1, 0] b44)) (os := q44.take 2) (all := q44) rfl (by kernel_rfl) (fix_keep (l := l) (v := v) (n := .int .i64 xs.length) (i := .int .i64 i) (by kernel_rfl) (by kernel_rfl) (by kernel_rfl) (by kernel_rfl)) ?_ hτ2 [2, 3] rfl hs2 hf2 ?_
    · intro j o h
      rw [List.getElem?_take] at h
      split at h
      · rw [Nat.zero_add, ← Array.getElem?_toList]; exact h
      · cases h
    intro τ3 hτ3 gh3 a3 w3 hs3 ⟨j0, j5, j6, j7⟩
    injection hτ3 with hτ3
    have e11 : a3.eval (.tmp 11) = .func (.yield l) #[] #[] := by
      have := hs3.env 11
      rw [(Prod.mk.inj hτ3).1] at this
      exact this.1
    obtain ⟨vs, e12, hrow⟩ : ∃ vs, a3.eval (.tmp 12) = .agg vs ∧ RepCs gh3 τ3.blk w3 (cellsOf r0 xs[i]) vs.toList := by
      have := hs3.env 12
      rw [(Prod.mk.inj hτ3).2] at this
      exact this
    have hJ3 : JJ g1 W1 l D rec xs (xs.take i) w3 := hin1.jj.grow hs3.tr
    have hrow' : RepCs g1 (fun _ => none) w3 (cellsOf r0 xs[i]) vs.toList := by
      exact repCs_flat rfl hrow
    have hlen : (xs.take i).length + 1 ≤ 2513169434916 := by rw [List.length_take]; omega
    obtain ⟨fn, tmps, assign, body, hy1, hR⟩ := yield_ok hr hl hD hlD hJ3 hlen xs[i] vs hrow'
    obtain ⟨o2, ho2, hg2, hd2, hop2⟩ : ∃ o : Oper, (opsOf (sub [1, 0, 0, 1, 1, 0, 0, 1, 0] b44))[2]? = some o ∧ o.guard = none ∧ o.dst = some 13 ∧ o.op = .call { callee := .value (.tmp 11), args := #[.tmp 12], argTypes := #[39] } :=
      ⟨{ dst := some 13, op := Go.Op.call { callee := Go.Callee.value (Go.Operand.tmp 11), args := #[Go.Operand.tmp 12], argTypes := #[39] }, type := 4, pos := "iter.go:40", after := #[{ on := 0, ground := Go.Ground.data }, { on := 1, ground := Go.Ground.data }], guard := none }, by kernel_rfl, rfl, rfl, rfl⟩
    refine wpOpsIn_cons ho2 hg2 ?_
    refine ⟨fun _ _ => trivial, ?_⟩
    have hy1 : (Instr.yield l #[Value.agg vs]).run cx44.T w3 = .ok (.round l fn tmps assign body) w3 := hy1
    rw [Oper.semAt_eq _ _ _ (fun c h => by rw [hop2] at h; cases h), run_callyield hop2 rfl a3 e11 w3]
    rw [show (#[Operand.tmp 12].map a3.eval) = #[Value.agg vs] by simp [e12], hy1]
    refine ⟨fun h => by simp [Fw, Fence.wide] at h, ?_⟩
    show RoundIn Fence.wide 0 Tryd.prog l fn tmps assign body w3 _
    refine hR.mono ?_
    rintro e W' ⟨rfl, hJ4⟩
    show wpOpsIn _ _ _ _ _ [3] _ _
    rw [hd2]
    have hput : ∀ s, s ≠ 13 → (a3.put (some 13) (.bool true)).tmps.getD s undef = a3.tmps.getD s undef := fun s hs => by
      show (a3.tmps.setIfInBounds 13 (.bool true)).getD s undef = _
      simp [Array.getD_eq_getD_getElem?, Array.getElem?_setIfInBounds, Ne.symm hs]
    have hf4 : Fix l v (.int .i64 xs.length) (.int .i64 i) (a3.put (some 13) (.bool true)).tmps := ⟨(hput 0 (by decide)).trans j0, (hput 5 (by decide)).trans j5, (hput 6 (by decide)).trans j6, (hput 7 (by decide)).trans j7⟩
    have hsz3 : (a3.put (some 13) (.bool true)).tmps.size = 16 := by
      show (a3.tmps.setIfInBounds 13 (.bool true)).size = 16
      rw [Array.size_setIfInBounds]
      exact hs3.size
    rw [show ([3] : List Nat) = List.range' 3 (q44.drop 3).length ++ [] by kernel_rfl]
    have hs4 : Sim ⟨g1, fun _ => none, W', 16⟩ g1 sw44 (a3.put (some 13) (.bool true)) W' := by
      refine ⟨hs3.defers, hsz3, fun s => ?_, hJ4.none, Tr.refl _ _ _⟩
      by_cases hs : s = 13
      · subst hs
        show (a3.tmps.setIfInBounds 13 (.bool true)).getD 13 undef = .bool true
        simp [Array.getD_eq_getD_getElem?, hs3.size]
      · have : sw44.get s = .v (.one .junk) := by
          unfold St.get sw44 lookE
          have : Nat.beq 13 s = false := by
            rw [← Bool.not_eq_true]
            exact fun h => hs (Nat.eq_of_beq_eq_true h).symm
          rw [this]; rfl
        rw [this]; trivial
    refine ops_in (ro := none) (cx := cx44) st44 (ops := opsOf (sub [1, 0, 0, 1, 1, 0, 0, 1, 0] b44)) (os := q44.drop 3) (all := q44) (i := 3) rfl (by kernel_rfl) (fix_keep (l := l) (v := v) (n := .int .i64 xs.length) (i := .int .i64 i) (by kernel_rfl) (by kernel_rfl) (by kernel_rfl) (by kernel_rfl)) ?_ run44_3 [] rfl hs4 hf4 ?_
    · intro j o h
      rw [List.getElem?_drop] at h
      rw [← Array.getElem?_toList]; exact h
    intro τ5 hτ5 gh5 a5 w5 hs5 ⟨m0, m5, m6, m7⟩
    injection hτ5 with hτ5
    have h14 : a5.eval (.tmp 14) = .bool false := by
      have := hs5.env 14
      rw [hτ5] at this
      exact this
    show Code.wpIn _ _ _ _ _ _ _
    refine wpIn_cond_false h14 (wpIn_skip ?_)
    have hJ5 : JJ g1 W1 l D rec xs (xs.take i ++ [xs[i]]) w5 := hJ4.grow hs5.tr
    have hs6 : Sim ⟨g1, fun _ => none, w5, 16⟩ g1 (sv44 (.func (.yield l) #[] #[]) xs xs.length i) a5 w5 := by
      refine ⟨hs5.defers, hs5.size, fun s => ?_, hJ5.none, Tr.refl _ _ _⟩
      show RepV g1 (fun _ => none) w5 (lookE s (sv44 (.func (.yield l) #[] #[]) xs xs.length i).env) _
      match s with
      | 0 => exact ⟨m0, rfl, rfl⟩
      | 5 =>
        show RepD g1.S w5 (.list r0) xs _
        rw [m5]
        exact repD_mono (fun _ h => h) hJ5.cell hv
      | 6 => exact m6
      | 7 => exact m7
      | 1 | 2 | 3 | 4 => trivial
      | n + 8 => trivial
    show Code.wpIn _ _ _ _ _ _ _
    refine region_in' (ro := none) (cx := cx44) (I := fun t => t.getD 0 undef = .func (.yield l) #[] #[] ∧ t.getD 5 undef = v ∧ t.getD 6 undef = .int .i64 xs.length) st44 (by kernel_rfl)
      (keep_and (keep_slot (by kernel_rfl)) (keep_and (keep_slot (by kernel_rfl)) (keep_slot (by kernel_rfl)))) (run44_4 _ xs xs.length i) rfl hs6 ⟨m0, m5, m6⟩ ?_
    intro τ7 hτ7 gh7 a7 w7 hs7 ⟨n0, n5, n6⟩
    injection hτ7 with hτ7
    have n7 : a7.tmps.getD 7 undef = .int .i64 ((i + 1 : Nat) : Int) := by
      have h := hs7.env 7
      rw [hτ7] at h
      have h : a7.tmps.getD 7 undef = .int .i64 (IntKind.wrap IntKind.i64 ((i : Int) + Int.ofNat 1)) := h
      rw [h]
      congr 1
      have : IntKind.wrap IntKind.i64 ((i : Int) + Int.ofNat 1) = (i : Int) + Int.ofNat 1 := IntWalk.i64_in _ (by simp; omega)
      rw [this]
      simp
    show (∃ j, j ≤ xs.length ∧ In44 g1 W1 l D rec xs v j a7 w7) ∧ _
    refine ⟨⟨i + 1, hlt, hs7.defers, hs7.size, n0, n5, n6, n7, ?_⟩, ?_⟩
    · have := hJ5.grow hs7.tr
      rwa [List.take_append_getElem hlt] at this
    · show (match a7.tmps.getD 7 undef with | .int _ z => xs.length - z.toNat | _ => 0) < (match a.tmps.getD 7 undef with | .int _ z => xs.length - z.toNat | _ => 0)
      rw [n7, hin.t7]
      show xs.length - (i + 1) < xs.length - i
      omega
  · -- the end
    have hge : xs.length ≤ i := by simpa using hge
    have hi' : i = xs.length := by omega
    subst hi'
    simp only [Exit.then, Exit.inBlock, ↓reduceIte]
    refine ⟨hin1.defers, _, results_none rfl _ _ _, ⟨_, rfl⟩, ?_⟩
    have := hin1.jj
    rwa [List.take_length] at this
end
@[reducible] def shG : Shape := ⟨[(2, .one (.ptr 100001 0)), (6, .one (.clo 44 [some (100000, 0)]))], [(100001, .box [.own 200001]), (200001, .lst 39 r0 false), (100000, .box [.d (.list r0)])]⟩
def exG (τ : St) : Option (shG.D × Option (Option Nat) × Option (Option Nat)) := (matchShape [] shG τ).bind fun ρ => (exEnv τ shG.env (exMem τ.mem ρ shG.mem)).bind fun p => some (p, lookR 100001 ρ, lookR 100000 ρ)
theorem runG (xs : List r0.D) : (runOps cx68 (opsOf (sub [0] b68)).toList (opsOf (sub [0] b68)).toList (embed sh68 (xs, ())) [] fun _ τ => runOps cx68 (opsOf (sub [1, 0, 0] b68)).toList (opsOf (sub [1, 0, 0] b68)).toList τ [] (fun _ τ => exG τ)) = some (([], xs, ()), some (some 2), some (some 100000)) := by kernel_rfl
def F68 : sh68.D → Option out68.D := fun p => bif decide (p.1.length ≤ 2513169434916) then some (p.1, p.1, ()) else none
noncomputable def e68 : FE := ⟨68, sh68, out68, F68⟩
theorem ok68 : FEOK Tryd.prog e68 := by
  intro p res hF gh w args hsz H hargs
  obtain ⟨xs, u⟩ := p
  have hF : (bif decide (xs.length ≤ 2513169434916) then some (xs, xs, ()) else none) = some res := hF
  cases hcond : decide (xs.length ≤ 2513169434916) with
  | false => rw [hcond] at hF; cases hF
  | true =>
  rw [hcond] at hF
  injection hF with hF
  subst hF
  have hlim : xs.length ≤ 2513169434916 := of_decide_eq_true hcond
  have hb : Tryd.f68.body = some b68 := by kernel_rfl
  have hf : Tryd.prog.funcs[68]? = some Tryd.f68 := by kernel_rfl
  have hsz : args.size = 2 := hsz
  refine .inr ⟨enters_of hf (by kernel_rfl) rfl _ _, (callsIn_wide (n := 0)).1 (callsIn_of_wp_marks hf hb trivial ?_)⟩
  have hs0 : Sim ⟨gh, (embed sh68 (xs, ())).blk, w, 13⟩ gh (embed sh68 (xs, ())) { tmps := args ++ Array.replicate (Tryd.f68.ntmps - args.size) undef, defers := [] } w := by
    refine ⟨rfl, by simp only [Array.size_append, Array.size_replicate]; rw [hsz]; rfl, fun s => ?_, H, Tr.refl _ _ _⟩
    have hg : (args ++ Array.replicate (Tryd.f68.ntmps - args.size) undef).getD s undef = args.getD s undef := by
      simp only [Array.getD_eq_getD_getElem?, Array.getElem?_append, Array.getElem?_replicate]
      split
      · rfl
      · rename_i hlt
        rw [Array.getElem?_eq_none (by omega)]
        split <;> rfl
    rw [hg]
    exact hargs s
  rw [b68_eq]
  refine wpIn_seq ?_
  refine region_in (ro := none) (cx := cx68) st68 (by kernel_rfl) (runG xs) rfl hs0 ?_
  intro τ1 hτ1 gh1 a1 w1 hs1
  show Code.wpIn _ _ _ _ _ _ _
  refine wpIn_seq (wpIn_seq ?_)
  refine region_in (ro := none) (cx := cx68) st68 (by kernel_rfl) hτ1 rfl hs1 ?_
  intro τ2 hτ2 gh2 a2 w2 hs2
  -- the names of the rounds
  unfold exG at hτ2
  cases hm : matchShape [] shG τ2 with
  | none => rw [hm] at hτ2; cases hτ2
  | some ρ =>
  rw [hm, Option.bind_some] at hτ2
  cases hex : exEnv τ2 shG.env (exMem τ2.mem ρ shG.mem) with
  | none => rw [hex] at hτ2; cases hτ2
  | some q =>
  rw [hex, Option.bind_some] at hτ2
  injection hτ2 with hτ2
  obtain ⟨hq, hρ1, hρ0⟩ : q = ([], xs, ()) ∧ lookR 100001 ρ = some (some 2) ∧ lookR 100000 ρ = some (some 100000) := by
    simp only [Prod.mk.injEq] at hτ2
    exact hτ2
  subst hq
  have hfit := fits (s := shG) (σ := τ2) (p := ([], xs, ())) nil_inj hm (by rw [hm, Option.bind_some]; exact hex)
  have Hg : HeapOK (renGh gh2 ρ) (memC [] xs) w2 := heap_ren hs2.heap hfit.inj hfit.has hfit.mem
  have hids : ∀ id b, memC [] xs id = some b → b.live = true → ∀ k, (renGh gh2 ρ).blk id = some k → w.heap.size ≤ k ∨ ∃ j c, (embed sh68 (xs, ())).blk j = some c ∧ c.live = true ∧ gh.blk j = some k := by
    intro id b hib hl k hk
    obtain ⟨j, c, _, h2, h3, h4⟩ := live_ren (gh := gh2) hfit.mem hib hk
    exact hs2.tr.ids j c h2 h3 k h4
  have hv0 : (renGh gh2 ρ).val 100000 = gh.val 100000 := by
    rw [ren_some hρ0]
    have hτn : τ2.blk 100000 ≠ none := by
      have := hfit.mem 100000 (.box [.c (.list r0) xs]) rfl
      cases this with
      | box h h' _ =>
        rw [hρ0] at h; injection h with h; injection h with h; subst h
        intro e
        rw [St.blk, h'] at e
        cases e
    exact (hs2.tr.pin 100000 rfl hτn).2
  have h2v : RepV (renGh gh2 ρ) (memC [] xs) w2 (.v (.one (.ptr 100001 0))) (a2.tmps.getD 2 undef) := a1rel_rep hs2.heap hfit.has (hfit.env 2) (hs2.env 2)
  have h6v : RepV (renGh gh2 ρ) (memC [] xs) w2 (.v (.one (.clo 44 [some (100000, 0)]))) (a2.tmps.getD 6 undef) := a1rel_rep hs2.heap hfit.has (hfit.env 6) (hs2.env 6)
  obtain ⟨_, b2, hb2, ht2⟩ := h2v
  obtain ⟨vs, ht6, hcaps⟩ := h6v
  obtain ⟨Bx, hvsl, hBx⟩ : ∃ Bx, vs = #[.pointer (some ⟨Bx, 0, none⟩)] ∧ (renGh gh2 ρ).val 100000 = .pointer (some ⟨Bx, 0, none⟩) := by
    obtain ⟨l⟩ := vs
    match l, hcaps with
    | [v0], .cons ⟨_, b, hb, hv⟩ .nil => subst hv; exact ⟨b, rfl, hb⟩
  subst hvsl
  have hcall : ∃ v, w2.cell? ⟨Bx, 0, none⟩ = some v ∧ RepD (renGh gh2 ρ).S w2 (.list r0) xs v ∧ ∃ t z vals, w2.heap[Bx]? = some (.cells vals t z) := by
    obtain ⟨g, tid, vals, q1, q2, q3⟩ := Hg.blk 100000 (.box [.c (.list r0) xs]) rfl
    rw [hBx] at q1
    have hg : Bx = g := by injection q1 with q1; injection q1 with q1; injection q1
    subst hg
    obtain ⟨l⟩ := vals
    match l, q3 with
    | [v0], .cons hv .nil => exact ⟨v0, by simp [World.cell?, q2], hv, _, _, _, q2⟩
  obtain ⟨v, hcv, hvr, t9, z9, vals9, hblk9⟩ := hcall
  refine wpIn_block (wpIn_rangeFunc ?_)
  intro fn hfn
  let lp : Loop := { state := .ready, pending := none, fn := fn, tmps := a2.tmps, params := #[7], assign := .region 2 (opsOf as68) false, body := .block 1 (.region 3 (opsOf (sub [0] bo68)) false), defers := w2.heap.size }
  obtain ⟨W1, hW1⟩ : ∃ W1, (w2.alloc (.deferred (some []))).alloc (.loop lp) = W1 := ⟨_, rfl⟩
  have hs3 : (w2.alloc (.deferred (some []))).heap.size = w2.heap.size + 1 := by simp
  have hAs : Aside w2.heap.size w2 W1 := by rw [← hW1]; exact (Aside.alloc _ _ _).trans (Aside.alloc _ _ _)
  have hLW : W1.heap[w2.heap.size + 1]? = some (.loop lp) := by
    rw [← hW1]
    have := World.alloc_heap_new (w2.alloc (.deferred (some []))) (.loop lp)
    rwa [hs3] at this
  have hDW : W1.heap[w2.heap.size]? = some (.deferred (some [])) := by
    rw [← hW1]
    exact (Below.heap_alloc _ _ _ (by rw [hs3]; omega)).trans (World.alloc_heap_new w2 _)
  have hr : RecOK (renGh gh2 ρ) lp := ⟨rfl, rfl, rfl, rfl, rfl, hs2.size, b2, hb2, ht2⟩
  have hJ : JJ (renGh gh2 ρ) w2 (w2.heap.size + 1) w2.heap.size lp xs [] W1 := ⟨⟨_, aside Hg (Tr.refl _ _ _) (Nat.le_refl _) hAs⟩, hLW, hDW⟩
  have hcW : W1.cell? ⟨Bx, 0, none⟩ = some v := by
    rw [← hcv]
    exact World.cell?_of_block (by rw [hAs.cells _ _ _ _ hblk9, hblk9])
  have hval := values_ok hr (by omega) (Nat.le_refl _) (by omega) hJ hvr hcW hlim
  refine ⟨w2.heap.size + 1, [{ target := .collected w2.heap.size, args := #[] }], W1, { target := .fn (.func 44) #[.pointer (some ⟨Bx, 0, none⟩)], args := #[.func (.yield (w2.heap.size + 1)) #[] #[]] }, W1, 44,
    #[.func (.yield (w2.heap.size + 1)) #[] #[], .pointer (some ⟨Bx, 0, none⟩)], W1, ?_, ?_, ?_, ?_, fun h => by simp [Fence.wide] at h, ?_⟩
  · rw [← hW1]; exact run_enterLoop_outer _ _ _ _ _
  · have he6 : a2.eval (.tmp 6) = .func (.func 44) #[] #[.pointer (some ⟨Bx, 0, none⟩)] := ht6
    simp only [resolve, rangeCall, he6, Deferred.ofValue, Sem.run_bind, Sem.run_pure, Result.andThen_ok]
    simp [Act.eval]
  · intro f' hf'; trivial
  · have e44 : ∀ args w, (callFunc 44 args).run Tryd.prog w = .ok (.enter 44 args) w := enters_of (show Tryd.prog.funcs[44]? = some Tryd.f44 by kernel_rfl) (by kernel_rfl) rfl
    simp [invoke, go_sem, e44]
  refine hval.mono ?_
  rintro e W2 ⟨⟨u, rfl⟩, ⟨gh5, H5, T5⟩, hL5, hD5⟩
  have hend := run_endLoop (P := Tryd.prog) hL5 (by simp [lp])
  have hA5 := Aside.putObj (B := w2.heap.size) (o' := .loop { lp with state := .exhausted }) hL5 (by omega) (by simp) (by simp)
  obtain ⟨H6, T6⟩ := aside H5 T5 (Nat.le_refl _) hA5
  have hD6 : (W2.putObj (w2.heap.size + 1) (.loop { lp with state := .exhausted })).heap[w2.heap.size]? = some (.deferred (some [])) := (World.putObj_heap_other (by omega)).trans hD5
  generalize W2.putObj (w2.heap.size + 1) (.loop { lp with state := .exhausted }) = W3 at hend H6 T6 hD6
  refine ⟨none, W3, hend, ?_⟩
  show Code.wpIn _ _ _ _ _ _ _
  refine wpIn_seq ?_
  have hd2 : a2.defers = [] := hs2.defers
  have hpin : gh5.val 100001 = .pointer (some ⟨b2, 0, none⟩) := by rw [(T6.pin 100001 rfl lookup_ne).2]; exact hb2
  have hs6 : Sim ⟨gh5, memC xs xs, W3, 13⟩ gh5 (embed shD (xs, xs, ())) a2 W3 := by
    refine ⟨hd2, hs2.size, fun s => ?_, H6, Tr.refl _ _ _⟩
    show RepV gh5 (memC xs xs) W3 (lookE s [(2, .v (.one (.ptr 100001 0)))]) _
    match s with
    | 2 => exact ⟨lookup_ne, b2, hpin, ht2⟩
    | 0 | 1 => trivial
    | n + 3 => trivial
  have hact : ({ a2 with defers := [{ target := .collected w2.heap.size, args := #[] }] ++ a2.defers } : Act) = dfr [{ target := .collected w2.heap.size, args := #[] }] a2 := by rw [hd2]; rfl
  rw [hact]
  refine region_in_d (ro := none) (cx := cx68) st68 [{ target := .collected w2.heap.size, args := #[] }] (by kernel_rfl) (runE xs xs) rfl hs6 ?_
  intro τ7 hτ7 gh7 a7 w7 hs7
  obtain ⟨gh8, hs8⟩ := sim_extract hτ7 hs7
  have H8 : HeapOK gh8 (embed shE (xs, xs, ())).blk w7 := hs8.heap
  have T8 : Tr gh5 (memC xs xs) W3 gh8 (embed shE (xs, xs, ())).blk w7 := hs8.tr
  have hD7 := other_same H6 T8 hD6 (by simp) (by simp)
  have hA9 := Aside.putObj (B := w2.heap.size) (o' := .deferred none) hD7 (Nat.le_refl _) (by simp) (by simp)
  obtain ⟨H9, T9⟩ := aside H8 (T6.trans T8) (Nat.le_refl _) hA9
  have hc9 := aside_cell H8 hA9
  refine wpIn_ret ?_
  refine ⟨by simp, .inl ⟨_, _, rfl, run_takeDeferred hD7, ?_⟩⟩
  refine ⟨_, results_tmp rfl _ _ _, _, rfl, gh8, H9, ?_, ?_⟩
  · refine tr_join (g1 := renGh gh2 ρ) (m1 := memC [] xs) hs2.tr rfl hids T9 fun id hp hne => ?_
    have : id = 100000 ∨ id = 200000 := by
      by_cases h0 : id = 100000
      · exact .inl h0
      · by_cases h1 : id = 200000
        · exact .inr h1
        · exfalso
          apply hne
          have e0 : Nat.beq 100000 id = false := by rw [← Bool.not_eq_true]; exact fun h => h0 (Nat.eq_of_beq_eq_true h).symm
          have e1 : Nat.beq 200000 id = false := by rw [← Bool.not_eq_true]; exact fun h => h1 (Nat.eq_of_beq_eq_true h).symm
          show lookM id [(100000, _), (200000, _)] = none
          simp only [lookM, e0, e1, cond_false]
    rcases this with rfl | rfl
    · refine ⟨?_, ((T9.pin 100000 rfl hne).2).trans hv0⟩
      show lookM 100000 [(100000, _)] ≠ none
      simp [lookM]
    · cases hp
  · have h4 : RepV gh8 (embed shE (xs, xs, ())).blk w7 (.v (.one (.own 200000))) (a7.tmps.getD 4 undef) := hs8.env 4
    exact repV_mono (g := gh8) (w := w7) (fun _ h => h) hc9 (fun id hid => ⟨hid, rfl⟩) h4
end Go.Vx.Z
/-! Loops, whole numbers. -/
namespace Go.Vx
open Go
set_option linter.unusedVariables false
section
variable {P E : Type} {B : P → Option (P ⊕ E)}
theorem loop_end {p : P} {e : E} (h : B p = some (.inr e)) : loop B p = some e := loop_of_iter (n := 1) (by simp [iter, h])
theorem loop_step {p q : P} {e : E} (h : B p = some (.inl q)) (hq : loop B q = some e) : loop B p = some e := by
  unfold loop at hq
  split at hq
  · rename_i hx
    exact loop_of_iter (n := hx.choose + 1) (by simp [iter, h, hq])
  · cases hq
/-- Some way to the end, and what holds there. -/
theorem loop_inv (I : P → Prop) (m : P → Nat) (Q : E → Prop) (h : ∀ p, I p → (∃ q, B p = some (.inl q) ∧ I q ∧ m q < m p) ∨ (∃ e, B p = some (.inr e) ∧ Q e)) : ∀ p, I p → ∃ e, loop B p = some e ∧ Q e := by
  have key : ∀ n p, m p < n → I p → ∃ e, loop B p = some e ∧ Q e := by
    intro n
    induction n with
    | zero => intro p hn; omega
    | succ n ih =>
      intro p hn hp
      rcases h p hp with ⟨q, h1, h2, h3⟩ | ⟨e, h1, h2⟩
      · obtain ⟨e, h4, h5⟩ := ih q (by omega) h2
        exact ⟨e, loop_step h1 h4, h5⟩
      · exact ⟨e, loop_end h1, h2⟩
  intro p hp
  exact key (m p + 1) p (by omega) hp
/-- States in a row. -/
theorem loop_row (st : Nat → P) (n : Nat) {e : E} (h : ∀ i, i < n → B (st i) = some (.inl (st (i + 1)))) (he : B (st n) = some (.inr e)) : loop B (st 0) = some e := by
  have key : ∀ k, k ≤ n → loop B (st (n - k)) = some e := by
    intro k
    induction k with
    | zero => intro _; exact loop_end he
    | succ k ih =>
      intro hk
      refine loop_step (h (n - (k + 1)) (by omega)) ?_
      rw [show n - (k + 1) + 1 = n - k by omega]
      exact ih (by omega)
  have := key n (Nat.le_refl _)
  rwa [Nat.sub_self] at this
end
theorem wrap64 {x : Int} (h0 : -9223372036854775808 ≤ x) (h1 : x ≤ 9223372036854775807) : IntKind.wrap IntKind.i64 x = x := IntWalk.i64_in x (by omega)
theorem wrap8 {x : Int} (h0 : 0 ≤ x) (h1 : x ≤ 255) : IntKind.wrap IntKind.u8 x = x := by
  show x % 256 = x
  omega
theorem wrap64s (i : Nat) (h : i < 9223372036854775807) : IntKind.wrap IntKind.i64 ((i : Int) + 1) = ((i + 1 : Nat) : Int) := by
  rw [wrap64 (by omega) (by omega)]; omega
/-- A text's bytes. -/
def bs (s : ByteArray) : List UInt8 := s.data.toList
theorem bs_size (s : ByteArray) : s.size = (bs s).length := (Array.length_toList (xs := s.data)).symm
theorem bs_toList (s : ByteArray) : s.toList = bs s := ByteArray.toList_eq s
theorem bs_inj {a b : ByteArray} (h : bs a = bs b) : a = b := by
  cases a; cases b
  simp only [bs, ByteArray.mk.injEq] at h ⊢
  exact Array.toList_inj.1 h
theorem bs_append (a b : ByteArray) : bs (a ++ b) = bs a ++ bs b := by
  simp [bs, ByteArray.data_append]
theorem bs_lit (l : List UInt8) : bs (lit l) = l := rfl
theorem bs_extract (s : ByteArray) (i j : Nat) : bs (s.extract i j) = ((bs s).take j).drop i := by
  simp [bs, ByteArray.data_extract, List.drop_take]
theorem bt_eq (s : ByteArray) (i : Nat) (h : i < s.size) : bt s (i : Int) = (((bs s)[i]'(by rw [← bs_size]; exact h)).toNat : Int) := by
  unfold bt
  have : s[i]? = some ((bs s)[i]'(by rw [← bs_size]; exact h)) := by
    rw [getElem?_pos s i h]
    simp [bs, ByteArray.getElem_eq_getElem_data]
  simp [this]
end Go.Vx
