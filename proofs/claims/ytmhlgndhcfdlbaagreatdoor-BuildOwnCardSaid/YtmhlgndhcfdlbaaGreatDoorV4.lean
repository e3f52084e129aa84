import Derived.Test.YtmhlgndhcfdlbaaGreatDoorV3
set_option linter.unusedSimpArgs false
namespace Go.Vx.Z
open Go Go.Vx Go.Proofs
set_option linter.unusedVariables false
set_option maxRecDepth 1000000
set_option maxHeartbeats 4000000

@[reducible] def sh52 : Shape := ⟨[(0, .row [.d .str, .d (.list r0), .d (.list r0), .d (.list r4), .d (.list r2), .d (.list r3)]), (1, .row [.d .str, .d (.int .i64), .d (.int .i64), .d (.int .i64), .d .str])], []⟩
@[reducible] def out52 : Shape := ⟨[(0, .one (.d (.list r0))), (1, .one (.d (.int .i64)))], []⟩
noncomputable def b52 : Code := Tryz.f52.body.getD .skip
noncomputable def cx52 : Cx := ⟨Tryz.prog, [e53, e54, e66, e69, e70, e71], [], 56, [], []⟩
noncomputable def F52 : sh52.D → Option out52.D := func cx52 Tryz.f52 b52 sh52 out52
noncomputable def e52 : FE := ⟨52, sh52, out52, F52⟩
theorem ok52 : FEOK Tryz.prog e52 := func_ok (cx := cx52) (fn := Tryz.f52) (c := b52) (all_fe (P := Tryz.prog) (l := [e53, e54, e66, e69, e70, e71]) ⟨ok53, ok54, ok66, ok69, ok70, ok71, trivial⟩) (by kernel_rfl) (by kernel_rfl) (by kernel_rfl) (by kernel_rfl) (by kernel_rfl) (needs_of (l := []) (by kernel_rfl) trivial)
@[reducible] def sh44 : Shape := ⟨[(0, .row [.d .str, .d (.list r0), .d (.list r0), .d (.list r4), .d (.list r2), .d (.list r3)])], []⟩
@[reducible] def out44 : Shape := ⟨[(0, .one (.d (.list r0))), (1, .one (.d (.int .i64)))], []⟩
noncomputable def b44 : Code := Tryz.f44.body.getD .skip
@[reducible] def sh44_0 : Shape := ⟨[(1, .one (.ptr 200000 0)), (4, .one (.own 200001)), (5, .one (.d (.int .i64))), (6, .one (.mp 200002)), (7, .one (.own 200003)), (8, .one (.d (.int .i64)))], [(200000, .box [.d .str, .d (.list r0), .d (.list r0), .d (.list r4), .d (.list r2), .d (.list r3)]), (200001, .lst 43 r0 false), (200002, .mp r0), (200003, .lst 43 r0 true)]⟩
@[reducible] def os44_0 : List (XE × Shape) := [(.ex 0, ⟨[(5, .one (.d (.int .i64))), (7, .one (.own 200000))], [(200000, .lst 43 r0 true)]⟩)]
noncomputable def cx44_0 : Cx := ⟨Tryz.prog, [e52, e53], [52], 57, [], []⟩
noncomputable def B44_0 : sh44_0.D → Option (sh44_0.D ⊕ OutsD os44_0) := round cx44_0 (sub [1, 1, 1, 1, 0, 1, 0, 0] b44) sh44_0 os44_0
noncomputable def ce44_0 : CE := ⟨sh44_0, os44_0, loop B44_0⟩
theorem okc44_0 : CEOK Tryz.prog 57 (.loop (sub [1, 1, 1, 1, 0, 1, 0, 0] b44)) ce44_0 := round_ok (cx := cx44_0) (fun R => step_sound (all_fe (P := Tryz.prog) (l := [e52, e53]) ⟨ok52, ok53, trivial⟩) R) (needs_of (l := []) (by kernel_rfl) trivial) sh44_0 os44_0
noncomputable def cx44 : Cx := ⟨Tryz.prog, [e52, e53], [52], 57, [(10, ce44_0)], []⟩
noncomputable def F44 : sh44.D → Option out44.D := func cx44 Tryz.f44 b44 sh44 out44
noncomputable def e44 : FE := ⟨44, sh44, out44, F44⟩
theorem ok44 : FEOK Tryz.prog e44 := func_ok (cx := cx44) (fn := Tryz.f44) (c := b44) (all_fe (P := Tryz.prog) (l := [e52, e53]) ⟨ok52, ok53, trivial⟩) (by kernel_rfl) (by kernel_rfl) (by kernel_rfl) (by kernel_rfl) (by kernel_rfl) (needs_of (l := [((.loop (sub [1, 1, 1, 1, 0, 1, 0, 0] b44)), ce44_0)]) (by kernel_rfl) ⟨okc44_0, trivial⟩)
@[reducible] def sh64 : Shape := ⟨[(0, .one (.clo 84 [some (100000, 0)])), (1, .one (.fn 55))], [(100000, .box [.d (.list r0)])]⟩
@[reducible] def out64 : Shape := ⟨[(0, .one (.own 200000))], [(100000, .box [.d (.list r0)]), (200000, .lst 43 r0 false)]⟩
noncomputable def b64 : Code := Tryz.f64.body.getD .skip
noncomputable def cx64 : Cx := ⟨Tryz.prog, [e54, e83], [], 12, [], []⟩
noncomputable def F64 : sh64.D → Option out64.D := func cx64 Tryz.f64 b64 sh64 out64
noncomputable def e64 : FE := ⟨64, sh64, out64, F64⟩
theorem ok64 : FEOK Tryz.prog e64 := func_ok (cx := cx64) (fn := Tryz.f64) (c := b64) (all_fe (P := Tryz.prog) (l := [e54, e83]) ⟨ok54, ok83, trivial⟩) (by kernel_rfl) (by kernel_rfl) (by kernel_rfl) (by kernel_rfl) (by kernel_rfl) (needs_of (l := []) (by kernel_rfl) trivial)
@[reducible] def sh45 : Shape := ⟨[(0, .row [.d .str, .d (.list r0), .d (.list r0), .d (.list r4), .d (.list r2), .d (.list r3)]), (1, .one (.d (.list r0)))], []⟩
@[reducible] def out45 : Shape := ⟨[(0, .one (.d (.list r6)))], []⟩
noncomputable def b45 : Code := Tryz.f45.body.getD .skip
@[reducible] def sh45_0 : Shape := ⟨[(1, .one (.own 200000)), (2, .one (.ptr 200001 0)), (5, .one (.own 200002)), (13, .one (.own 200000)), (14, .one (.d (.int .i64))), (15, .one (.d (.int .i64)))], [(200000, .lst 43 r0 false), (200001, .box [.d .str, .d (.list r0), .d (.list r0), .d (.list r4), .d (.list r2), .d (.list r3)]), (200002, .lst 51 r6 true)]⟩
@[reducible] def os45_0 : List (XE × Shape) := [(.ex 0, ⟨[(5, .one (.own 200000))], [(200000, .lst 51 r6 true)]⟩)]
noncomputable def cx45_0 : Cx := ⟨Tryz.prog, [e64, e65, e66, e67], [], 59, [], []⟩
noncomputable def B45_0 : sh45_0.D → Option (sh45_0.D ⊕ OutsD os45_0) := round cx45_0 (sub [1, 1, 1, 0, 1, 0, 0] b45) sh45_0 os45_0
noncomputable def ce45_0 : CE := ⟨sh45_0, os45_0, loop B45_0⟩
theorem okc45_0 : CEOK Tryz.prog 59 (.loop (sub [1, 1, 1, 0, 1, 0, 0] b45)) ce45_0 := round_ok (cx := cx45_0) (fun R => step_sound (all_fe (P := Tryz.prog) (l := [e64, e65, e66, e67]) ⟨ok64, ok65, ok66, ok67, trivial⟩) R) (needs_of (l := []) (by kernel_rfl) trivial) sh45_0 os45_0
noncomputable def cx45 : Cx := ⟨Tryz.prog, [e64, e65, e66, e67], [], 59, [(8, ce45_0)], []⟩
noncomputable def F45 : sh45.D → Option out45.D := func cx45 Tryz.f45 b45 sh45 out45
noncomputable def e45 : FE := ⟨45, sh45, out45, F45⟩
theorem ok45 : FEOK Tryz.prog e45 := func_ok (cx := cx45) (fn := Tryz.f45) (c := b45) (all_fe (P := Tryz.prog) (l := [e64, e65, e66, e67]) ⟨ok64, ok65, ok66, ok67, trivial⟩) (by kernel_rfl) (by kernel_rfl) (by kernel_rfl) (by kernel_rfl) (by kernel_rfl) (needs_of (l := [((.loop (sub [1, 1, 1, 0, 1, 0, 0] b45)), ce45_0)]) (by kernel_rfl) ⟨okc45_0, trivial⟩)
@[reducible] def sh19 : Shape := ⟨[(0, .row [.d (.list r2), .d (.list r3)]), (1, .row [.d .str, .d (.list r0), .d (.list r0), .d (.list r4)])], []⟩
@[reducible] def out19 : Shape := ⟨[(0, .one (.d (.list r6))), (1, .one (.d (.int .i64)))], []⟩
noncomputable def b19 : Code := Tryz.f19.body.getD .skip
noncomputable def cx19 : Cx := ⟨Tryz.prog, [e43, e44, e45], [], 23, [], []⟩
noncomputable def F19 : sh19.D → Option out19.D := func cx19 Tryz.f19 b19 sh19 out19
noncomputable def e19 : FE := ⟨19, sh19, out19, F19⟩
theorem ok19 : FEOK Tryz.prog e19 := func_ok (cx := cx19) (fn := Tryz.f19) (c := b19) (all_fe (P := Tryz.prog) (l := [e43, e44, e45]) ⟨ok43, ok44, ok45, trivial⟩) (by kernel_rfl) (by kernel_rfl) (by kernel_rfl) (by kernel_rfl) (by kernel_rfl) (needs_of (l := []) (by kernel_rfl) trivial)
@[reducible] def sh13 : Shape := ⟨[], []⟩
@[reducible] def out13 : Shape := ⟨[(0, .one (.d .bool))], []⟩
noncomputable def b13 : Code := Tryz.f13.body.getD .skip
noncomputable def cx13 : Cx := ⟨Tryz.prog, [e19, e20], [], 68, [], []⟩
noncomputable def F13 : sh13.D → Option out13.D := func cx13 Tryz.f13 b13 sh13 out13
noncomputable def e13 : FE := ⟨13, sh13, out13, F13⟩
theorem ok13 : FEOK Tryz.prog e13 := func_ok (cx := cx13) (fn := Tryz.f13) (c := b13) (all_fe (P := Tryz.prog) (l := [e19, e20]) ⟨ok19, ok20, trivial⟩) (by kernel_rfl) (by kernel_rfl) (by kernel_rfl) (by kernel_rfl) (by kernel_rfl) (needs_of (l := []) (by kernel_rfl) trivial)
@[reducible] def sh3 : Shape := ⟨[(0, .one (.d (.int .i64))), (1, .one (.d (.list (.int .i64)))), (2, .one (.d (.list (.int .i64)))), (3, .one (.d (.int .i64)))], []⟩
@[reducible] def out3 : Shape := ⟨[(0, .one (.d .bool))], []⟩
noncomputable def b3 : Code := Tryz.f3.body.getD .skip
@[reducible] def sh3_0 : Shape := ⟨[(14, .one (.d (.list r6))), (16, .one (.d (.list r6))), (18, .one (.d (.int .i64)))], []⟩
@[reducible] def os3_0 : List (XE × Shape) := [(.ret, ⟨[(8, .one (.d .bool))], []⟩), (.ex 0, ⟨[], []⟩)]
noncomputable def cx3_0 : Cx := ⟨Tryz.prog, [e13, e14, e15, e16, e17, e18, e19, e20, e21], [], 112, [], []⟩
noncomputable def B3_0 : sh3_0.D → Option (sh3_0.D ⊕ OutsD os3_0) := round cx3_0 (sub [1, 1, 1, 1, 1, 1, 1, 1, 1, 1, 1, 1, 0, 1, 0, 0] b3) sh3_0 os3_0
noncomputable def ce3_0 : CE := ⟨sh3_0, os3_0, loop B3_0⟩
theorem okc3_0 : CEOK Tryz.prog 112 (.loop (sub [1, 1, 1, 1, 1, 1, 1, 1, 1, 1, 1, 1, 0, 1, 0, 0] b3)) ce3_0 := round_ok (cx := cx3_0) (fun R => step_sound (all_fe (P := Tryz.prog) (l := [e13, e14, e15, e16, e17, e18, e19, e20, e21]) ⟨ok13, ok14, ok15, ok16, ok17, ok18, ok19, ok20, ok21, trivial⟩) R) (needs_of (l := []) (by kernel_rfl) trivial) sh3_0 os3_0
noncomputable def cx3 : Cx := ⟨Tryz.prog, [e13, e14, e15, e16, e17, e18, e19, e20, e21], [], 112, [(32, ce3_0)], []⟩
noncomputable def F3 : sh3.D → Option out3.D := func cx3 Tryz.f3 b3 sh3 out3
noncomputable def e3 : FE := ⟨3, sh3, out3, F3⟩
theorem ok3 : FEOK Tryz.prog e3 := func_ok (cx := cx3) (fn := Tryz.f3) (c := b3) (all_fe (P := Tryz.prog) (l := [e13, e14, e15, e16, e17, e18, e19, e20, e21]) ⟨ok13, ok14, ok15, ok16, ok17, ok18, ok19, ok20, ok21, trivial⟩) (by kernel_rfl) (by kernel_rfl) (by kernel_rfl) (by kernel_rfl) (by kernel_rfl) (needs_of (l := [((.loop (sub [1, 1, 1, 1, 1, 1, 1, 1, 1, 1, 1, 1, 0, 1, 0, 0] b3)), ce3_0)]) (by kernel_rfl) ⟨okc3_0, trivial⟩)
@[reducible] def sh4 : Shape := ⟨[(0, .one (.d (.int .i64))), (1, .one (.d (.list (.int .i64)))), (2, .one (.d (.int .i64))), (3, .one (.d (.int .i64)))], []⟩
@[reducible] def out4 : Shape := ⟨[(0, .one (.d .bool))], []⟩
noncomputable def b4 : Code := Tryz.f4.body.getD .skip
@[reducible] def sh4_0 : Shape := ⟨[(9, .one (.ptr 200000 0)), (10, .one (.ptr 200001 0)), (11, .one (.d (.int .i64))), (12, .one (.ptr 200002 0)), (13, .one (.d (.int .i64))), (14, .one (.d (.int .i64)))], [(200000, .box [.d (.list r2), .d (.list r3)]), (200001, .box [.d .str, .d (.list r1)]), (200002, .box [.d .str, .own 200003, .own 200004, .nilS]), (200003, .lst 43 r0 true), (200004, .lst 43 r0 true)]⟩
@[reducible] def os4_0 : List (XE × Shape) := [(.ex 0, ⟨[(9, .one (.ptr 200000 0)), (10, .one (.ptr 200001 0)), (11, .one (.d (.int .i64))), (12, .one (.ptr 200002 0)), (13, .one (.d (.int .i64)))], [(200000, .box [.d (.list r2), .d (.list r3)]), (200001, .box [.d .str, .d (.list r1)]), (200002, .box [.d .str, .own 200003, .own 200004, .nilS]), (200003, .lst 43 r0 true), (200004, .lst 43 r0 true)]⟩)]
noncomputable def cx4_0 : Cx := ⟨Tryz.prog, [e13, e14, e16, e19, e20, e21, e22, e23], [], 156, [], []⟩
noncomputable def B4_0 : sh4_0.D → Option (sh4_0.D ⊕ OutsD os4_0) := round cx4_0 (sub [1, 1, 1, 1, 1, 1, 1, 0, 1, 0, 0] b4) sh4_0 os4_0
noncomputable def ce4_0 : CE := ⟨sh4_0, os4_0, loop B4_0⟩
theorem okc4_0 : CEOK Tryz.prog 156 (.loop (sub [1, 1, 1, 1, 1, 1, 1, 0, 1, 0, 0] b4)) ce4_0 := round_ok (cx := cx4_0) (fun R => step_sound (all_fe (P := Tryz.prog) (l := [e13, e14, e16, e19, e20, e21, e22, e23]) ⟨ok13, ok14, ok16, ok19, ok20, ok21, ok22, ok23, trivial⟩) R) (needs_of (l := []) (by kernel_rfl) trivial) sh4_0 os4_0
@[reducible] def sh4_1 : Shape := ⟨[(10, .one (.ptr 200000 0)), (11, .one (.d (.int .i64))), (12, .one (.ptr 200001 0)), (13, .one (.d (.int .i64))), (15, .one (.d (.list r6))), (19, .one (.d (.int .i64)))], [(200000, .box [.d .str, .d (.list r1)]), (200001, .box [.d .str, .own 200002, .own 200003, .nilS]), (200002, .lst 43 r0 true), (200003, .lst 43 r0 true)]⟩
@[reducible] def os4_1 : List (XE × Shape) := [(.ret, ⟨[(8, .one (.d .bool))], []⟩), (.ex 2, ⟨[(10, .one (.ptr 200000 0)), (11, .one (.d (.int .i64))), (13, .one (.d (.int .i64))), (15, .one (.d (.list r6)))], [(200000, .box [.d .str, .d (.list r1)])]⟩)]
noncomputable def cx4_1 : Cx := ⟨Tryz.prog, [e13, e14, e16, e19, e20, e21, e22, e23], [], 156, [(18, ce4_0)], []⟩
noncomputable def B4_1 : sh4_1.D → Option (sh4_1.D ⊕ OutsD os4_1) := round cx4_1 (sub [1, 1, 1, 1, 1, 1, 1, 1, 1, 1, 1, 1, 1, 0, 1, 0, 0] b4) sh4_1 os4_1
noncomputable def ce4_1 : CE := ⟨sh4_1, os4_1, loop B4_1⟩
theorem okc4_1 : CEOK Tryz.prog 156 (.loop (sub [1, 1, 1, 1, 1, 1, 1, 1, 1, 1, 1, 1, 1, 0, 1, 0, 0] b4)) ce4_1 := round_ok (cx := cx4_1) (fun R => step_sound (all_fe (P := Tryz.prog) (l := [e13, e14, e16, e19, e20, e21, e22, e23]) ⟨ok13, ok14, ok16, ok19, ok20, ok21, ok22, ok23, trivial⟩) R) (needs_of (l := []) (by kernel_rfl) trivial) sh4_1 os4_1
noncomputable def cx4 : Cx := ⟨Tryz.prog, [e13, e14, e16, e19, e20, e21, e22, e23], [], 156, [(18, ce4_0), (42, ce4_1)], []⟩
noncomputable def F4 : sh4.D → Option out4.D := func cx4 Tryz.f4 b4 sh4 out4
noncomputable def e4 : FE := ⟨4, sh4, out4, F4⟩
theorem ok4 : FEOK Tryz.prog e4 := func_ok (cx := cx4) (fn := Tryz.f4) (c := b4) (all_fe (P := Tryz.prog) (l := [e13, e14, e16, e19, e20, e21, e22, e23]) ⟨ok13, ok14, ok16, ok19, ok20, ok21, ok22, ok23, trivial⟩) (by kernel_rfl) (by kernel_rfl) (by kernel_rfl) (by kernel_rfl) (by kernel_rfl) (needs_of (l := [((.loop (sub [1, 1, 1, 1, 1, 1, 1, 0, 1, 0, 0] b4)), ce4_0), ((.loop (sub [1, 1, 1, 1, 1, 1, 1, 1, 1, 1, 1, 1, 1, 0, 1, 0, 0] b4)), ce4_1)]) (by kernel_rfl) ⟨okc4_0, okc4_1, trivial⟩)
@[reducible] def sh5 : Shape := ⟨[(0, .one (.d (.int .i64))), (1, .one (.d (.list (.int .i64)))), (2, .one (.d (.list (.int .i64)))), (3, .one (.d (.int .i64)))], []⟩
@[reducible] def out5 : Shape := ⟨[(0, .one (.d .bool))], []⟩
noncomputable def b5 : Code := Tryz.f5.body.getD .skip
noncomputable def cx5 : Cx := ⟨Tryz.prog, [e13, e14, e15, e16, e19, e20, e22, e23, e24], [], 69, [], []⟩
noncomputable def F5 : sh5.D → Option out5.D := func cx5 Tryz.f5 b5 sh5 out5
noncomputable def e5 : FE := ⟨5, sh5, out5, F5⟩
theorem ok5 : FEOK Tryz.prog e5 := func_ok (cx := cx5) (fn := Tryz.f5) (c := b5) (all_fe (P := Tryz.prog) (l := [e13, e14, e15, e16, e19, e20, e22, e23, e24]) ⟨ok13, ok14, ok15, ok16, ok19, ok20, ok22, ok23, ok24, trivial⟩) (by kernel_rfl) (by kernel_rfl) (by kernel_rfl) (by kernel_rfl) (by kernel_rfl) (needs_of (l := []) (by kernel_rfl) trivial)
@[reducible] def sh6 : Shape := ⟨[(0, .one (.d (.int .i64))), (1, .one (.d (.list (.int .i64)))), (2, .one (.d (.list (.int .i64))))], []⟩
@[reducible] def out6 : Shape := ⟨[(0, .one (.d .bool))], []⟩
noncomputable def b6 : Code := Tryz.f6.body.getD .skip
@[reducible] def sh6_0 : Shape := ⟨[(7, .one (.ptr 200000 0)), (9, .one (.d (.list r6))), (11, .one (.ptr 200001 0)), (12, .one (.d (.int .i64)))], [(200000, .box [.d (.list r2), .d (.list r3)]), (200001, .box [.d .str, .own 200002, .nilS, .nilS]), (200002, .lst 43 r0 true)]⟩
@[reducible] def os6_0 : List (XE × Shape) := [(.ex 0, ⟨[(7, .one (.ptr 200000 0)), (9, .one (.d (.list r6))), (11, .one (.ptr 200001 0))], [(200000, .box [.d (.list r2), .d (.list r3)]), (200001, .box [.d .str, .own 200002, .nilS, .nilS]), (200002, .lst 43 r0 true)]⟩)]
noncomputable def cx6_0 : Cx := ⟨Tryz.prog, [e13, e14, e15, e19, e23], [], 73, [], []⟩
noncomputable def B6_0 : sh6_0.D → Option (sh6_0.D ⊕ OutsD os6_0) := round cx6_0 (sub [1, 1, 1, 1, 1, 1, 1, 1, 0, 1, 0, 0] b6) sh6_0 os6_0
noncomputable def ce6_0 : CE := ⟨sh6_0, os6_0, loop B6_0⟩
theorem okc6_0 : CEOK Tryz.prog 73 (.loop (sub [1, 1, 1, 1, 1, 1, 1, 1, 0, 1, 0, 0] b6)) ce6_0 := round_ok (cx := cx6_0) (fun R => step_sound (all_fe (P := Tryz.prog) (l := [e13, e14, e15, e19, e23]) ⟨ok13, ok14, ok15, ok19, ok23, trivial⟩) R) (needs_of (l := []) (by kernel_rfl) trivial) sh6_0 os6_0
noncomputable def cx6 : Cx := ⟨Tryz.prog, [e13, e14, e15, e19, e23], [], 73, [(22, ce6_0)], []⟩
noncomputable def F6 : sh6.D → Option out6.D := func cx6 Tryz.f6 b6 sh6 out6
noncomputable def e6 : FE := ⟨6, sh6, out6, F6⟩
theorem ok6 : FEOK Tryz.prog e6 := func_ok (cx := cx6) (fn := Tryz.f6) (c := b6) (all_fe (P := Tryz.prog) (l := [e13, e14, e15, e19, e23]) ⟨ok13, ok14, ok15, ok19, ok23, trivial⟩) (by kernel_rfl) (by kernel_rfl) (by kernel_rfl) (by kernel_rfl) (by kernel_rfl) (needs_of (l := [((.loop (sub [1, 1, 1, 1, 1, 1, 1, 1, 0, 1, 0, 0] b6)), ce6_0)]) (by kernel_rfl) ⟨okc6_0, trivial⟩)
@[reducible] def sh7 : Shape := ⟨[(0, .one (.d (.int .i64))), (1, .one (.d (.list (.int .i64)))), (2, .one (.d (.list (.int .i64)))), (3, .one (.d .str))], []⟩
@[reducible] def out7 : Shape := ⟨[(0, .one (.d .bool))], []⟩
noncomputable def b7 : Code := Tryz.f7.body.getD .skip
@[reducible] def sh7_0 : Shape := ⟨[(3, .one (.d .str)), (10, .one (.d (.list r6))), (12, .one (.d (.int .i64)))], []⟩
@[reducible] def os7_0 : List (XE × Shape) := [(.ret, ⟨[(8, .one (.d .bool))], []⟩), (.ex 0, ⟨[(3, .one (.d .str)), (10, .one (.d (.list r6)))], []⟩)]
noncomputable def cx7_0 : Cx := ⟨Tryz.prog, [e13, e14, e15, e19, e20, e25], [], 96, [], []⟩
noncomputable def B7_0 : sh7_0.D → Option (sh7_0.D ⊕ OutsD os7_0) := round cx7_0 (sub [1, 1, 1, 1, 0, 1, 0, 0] b7) sh7_0 os7_0
noncomputable def ce7_0 : CE := ⟨sh7_0, os7_0, loop B7_0⟩
theorem okc7_0 : CEOK Tryz.prog 96 (.loop (sub [1, 1, 1, 1, 0, 1, 0, 0] b7)) ce7_0 := round_ok (cx := cx7_0) (fun R => step_sound (all_fe (P := Tryz.prog) (l := [e13, e14, e15, e19, e20, e25]) ⟨ok13, ok14, ok15, ok19, ok20, ok25, trivial⟩) R) (needs_of (l := []) (by kernel_rfl) trivial) sh7_0 os7_0
noncomputable def cx7 : Cx := ⟨Tryz.prog, [e13, e14, e15, e19, e20, e25], [], 96, [(12, ce7_0)], []⟩
noncomputable def F7 : sh7.D → Option out7.D := func cx7 Tryz.f7 b7 sh7 out7
noncomputable def e7 : FE := ⟨7, sh7, out7, F7⟩
theorem ok7 : FEOK Tryz.prog e7 := func_ok (cx := cx7) (fn := Tryz.f7) (c := b7) (all_fe (P := Tryz.prog) (l := [e13, e14, e15, e19, e20, e25]) ⟨ok13, ok14, ok15, ok19, ok20, ok25, trivial⟩) (by kernel_rfl) (by kernel_rfl) (by kernel_rfl) (by kernel_rfl) (by kernel_rfl) (needs_of (l := [((.loop (sub [1, 1, 1, 1, 0, 1, 0, 0] b7)), ce7_0)]) (by kernel_rfl) ⟨okc7_0, trivial⟩)
@[reducible] def sh26 : Shape := ⟨[(0, .row [.d (.list r2), .d (.list r3)]), (1, .row [.d .str, .d (.list r0), .d (.list r0), .d (.list r4)]), (2, .row [.d .str, .d (.int .i64), .d (.int .i64), .d (.int .i64), .d .str])], []⟩
@[reducible] def out26 : Shape := ⟨[(0, .one (.d (.list r0))), (1, .one (.d (.int .i64)))], []⟩
noncomputable def b26 : Code := Tryz.f26.body.getD .skip
noncomputable def cx26 : Cx := ⟨Tryz.prog, [e43, e52], [], 15, [], []⟩
noncomputable def F26 : sh26.D → Option out26.D := func cx26 Tryz.f26 b26 sh26 out26
noncomputable def e26 : FE := ⟨26, sh26, out26, F26⟩
theorem ok26 : FEOK Tryz.prog e26 := func_ok (cx := cx26) (fn := Tryz.f26) (c := b26) (all_fe (P := Tryz.prog) (l := [e43, e52]) ⟨ok43, ok52, trivial⟩) (by kernel_rfl) (by kernel_rfl) (by kernel_rfl) (by kernel_rfl) (by kernel_rfl) (needs_of (l := []) (by kernel_rfl) trivial)
@[reducible] def sh8 : Shape := ⟨[(0, .one (.d (.int .i64))), (1, .one (.d (.list (.int .i64)))), (2, .one (.d (.list (.int .i64))))], []⟩
@[reducible] def out8 : Shape := ⟨[(0, .one (.d .bool))], []⟩
noncomputable def b8 : Code := Tryz.f8.body.getD .skip
@[reducible] def sh8_0 : Shape := ⟨[(7, .one (.ptr 200000 0)), (8, .one (.ptr 200001 0)), (9, .one (.d (.list r6))), (11, .one (.d (.int .i64)))], [(200000, .box [.d (.list r2), .d (.list r3)]), (200001, .box [.d .str, .d (.list r0), .nilS, .nilS])]⟩
@[reducible] def os8_0 : List (XE × Shape) := [(.ret, ⟨[(6, .one (.d .bool))], []⟩), (.ex 0, ⟨[(7, .one (.ptr 200000 0)), (8, .one (.ptr 200001 0)), (9, .one (.d (.list r6)))], [(200000, .box [.d (.list r2), .d (.list r3)]), (200001, .box [.d .str, .d (.list r0), .nilS, .nilS])]⟩)]
noncomputable def cx8_0 : Cx := ⟨Tryz.prog, [e13, e14, e15, e19, e20, e21, e26], [], 150, [], []⟩
noncomputable def B8_0 : sh8_0.D → Option (sh8_0.D ⊕ OutsD os8_0) := round cx8_0 (sub [1, 1, 1, 1, 1, 1, 1, 0, 1, 0, 0] b8) sh8_0 os8_0
noncomputable def ce8_0 : CE := ⟨sh8_0, os8_0, loop B8_0⟩
theorem okc8_0 : CEOK Tryz.prog 150 (.loop (sub [1, 1, 1, 1, 1, 1, 1, 0, 1, 0, 0] b8)) ce8_0 := round_ok (cx := cx8_0) (fun R => step_sound (all_fe (P := Tryz.prog) (l := [e13, e14, e15, e19, e20, e21, e26]) ⟨ok13, ok14, ok15, ok19, ok20, ok21, ok26, trivial⟩) R) (needs_of (l := []) (by kernel_rfl) trivial) sh8_0 os8_0
@[reducible] def sh8_1 : Shape := ⟨[(7, .one (.ptr 200000 0)), (8, .one (.ptr 200001 0)), (9, .one (.d (.list r6))), (14, .one (.d (.int .i64))), (15, .one (.d (.list r0))), (17, .one (.d (.int .i64))), (95, .one (.d (.list r6))), (96, .one (.d (.int .i64))), (99, .one (.d .str)), (100, .one (.d .bool))], [(200000, .box [.d (.list r2), .d (.list r3)]), (200001, .box [.d .str, .d (.list r0), .nilS, .nilS])]⟩
@[reducible] def os8_1 : List (XE × Shape) := [(.ret, ⟨[(6, .one (.d .bool))], []⟩), (.ex 4, ⟨[(7, .one (.ptr 200000 0)), (8, .one (.ptr 200001 0)), (9, .one (.d (.list r6))), (14, .one (.d (.int .i64))), (95, .one (.d (.list r6))), (96, .one (.d (.int .i64))), (99, .one (.d .str)), (100, .one (.d .bool))], [(200000, .box [.d (.list r2), .d (.list r3)]), (200001, .box [.d .str, .d (.list r0), .nilS, .nilS])]⟩)]
noncomputable def cx8_1 : Cx := ⟨Tryz.prog, [e13, e14, e15, e19, e20, e21, e26], [], 150, [(20, ce8_0)], []⟩
noncomputable def B8_1 : sh8_1.D → Option (sh8_1.D ⊕ OutsD os8_1) := round cx8_1 (sub [1, 1, 1, 1, 1, 1, 1, 1, 0, 1, 0, 0, 1, 0, 0, 1, 1, 1, 1, 0, 0] b8) sh8_1 os8_1
noncomputable def ce8_1 : CE := ⟨sh8_1, os8_1, loop B8_1⟩
theorem okc8_1 : CEOK Tryz.prog 150 (.loop (sub [1, 1, 1, 1, 1, 1, 1, 1, 0, 1, 0, 0, 1, 0, 0, 1, 1, 1, 1, 0, 0] b8)) ce8_1 := round_ok (cx := cx8_1) (fun R => step_sound (all_fe (P := Tryz.prog) (l := [e13, e14, e15, e19, e20, e21, e26]) ⟨ok13, ok14, ok15, ok19, ok20, ok21, ok26, trivial⟩) R) (needs_of (l := []) (by kernel_rfl) trivial) sh8_1 os8_1
@[reducible] def sh8_2 : Shape := ⟨[(7, .one (.ptr 200000 0)), (8, .one (.ptr 200001 0)), (9, .one (.d (.list r6))), (14, .one (.d (.int .i64)))], [(200000, .box [.d (.list r2), .d (.list r3)]), (200001, .box [.d .str, .d (.list r0), .nilS, .nilS])]⟩
@[reducible] def os8_2 : List (XE × Shape) := [(.ret, ⟨[(6, .one (.d .bool))], []⟩), (.ex 2, ⟨[], []⟩)]
noncomputable def cx8_2 : Cx := ⟨Tryz.prog, [e13, e14, e15, e19, e20, e21, e26], [], 150, [(20, ce8_0), (48, ce8_1)], []⟩
noncomputable def B8_2 : sh8_2.D → Option (sh8_2.D ⊕ OutsD os8_2) := round cx8_2 (sub [1, 1, 1, 1, 1, 1, 1, 1, 0, 1, 0, 0] b8) sh8_2 os8_2
noncomputable def ce8_2 : CE := ⟨sh8_2, os8_2, loop B8_2⟩
theorem okc8_2 : CEOK Tryz.prog 150 (.loop (sub [1, 1, 1, 1, 1, 1, 1, 1, 0, 1, 0, 0] b8)) ce8_2 := round_ok (cx := cx8_2) (fun R => step_sound (all_fe (P := Tryz.prog) (l := [e13, e14, e15, e19, e20, e21, e26]) ⟨ok13, ok14, ok15, ok19, ok20, ok21, ok26, trivial⟩) R) (needs_of (l := [((.loop (sub [1, 1, 1, 1, 1, 1, 1, 1, 0, 1, 0, 0, 1, 0, 0, 1, 1, 1, 1, 0, 0] b8)), ce8_1)]) (by kernel_rfl) ⟨okc8_1, trivial⟩) sh8_2 os8_2
noncomputable def cx8 : Cx := ⟨Tryz.prog, [e13, e14, e15, e19, e20, e21, e26], [], 150, [(20, ce8_0), (48, ce8_1), (32, ce8_2)], []⟩
noncomputable def F8 : sh8.D → Option out8.D := func cx8 Tryz.f8 b8 sh8 out8
noncomputable def e8 : FE := ⟨8, sh8, out8, F8⟩
theorem ok8 : FEOK Tryz.prog e8 := func_ok (cx := cx8) (fn := Tryz.f8) (c := b8) (all_fe (P := Tryz.prog) (l := [e13, e14, e15, e19, e20, e21, e26]) ⟨ok13, ok14, ok15, ok19, ok20, ok21, ok26, trivial⟩) (by kernel_rfl) (by kernel_rfl) (by kernel_rfl) (by kernel_rfl) (by kernel_rfl) (needs_of (l := [((.loop (sub [1, 1, 1, 1, 1, 1, 1, 0, 1, 0, 0] b8)), ce8_0), ((.loop (sub [1, 1, 1, 1, 1, 1, 1, 1, 0, 1, 0, 0] b8)), ce8_2)]) (by kernel_rfl) ⟨okc8_0, okc8_2, trivial⟩)
@[reducible] def sh29 : Shape := ⟨[(0, .row [.d (.list r2), .d (.list r3)]), (1, .row [.d .str, .d (.list r0), .d (.list r0), .d (.list r4)]), (2, .one (.d .str))], []⟩
@[reducible] def out29 : Shape := ⟨[(0, .one (.d (.list r0))), (1, .one (.d .bool))], []⟩
noncomputable def b29 : Code := Tryz.f29.body.getD .skip
@[reducible] def sh29_0 : Shape := ⟨[(8, .one (.ptr 200000 0)), (13, .one (.ptr 200001 0)), (16, .one (.own 200002)), (17, .one (.mp 200003)), (64, .one (.own 200004)), (65, .one (.d (.int .i64))), (66, .one (.d (.int .i64)))], [(200000, .box [.d .str, .d (.list r0), .d (.list r0), .d (.list r4), .d (.list r2), .d (.list r3)]), (200001, .box [.d .str, .d (.int .i64), .d (.int .i64), .d (.int .i64), .d .str]), (200002, .lst 29 (.list r0) true), (200003, .mp r0), (200004, .lst 43 r0 false)]⟩
@[reducible] def os29_0 : List (XE × Shape) := [(.ex 0, ⟨[(8, .one (.ptr 200000 0)), (13, .one (.ptr 200001 0)), (16, .one (.own 200002)), (17, .one (.mp 200003))], [(200000, .box [.d .str, .d (.list r0), .d (.list r0), .d (.list r4), .d (.list r2), .d (.list r3)]), (200001, .box [.d .str, .d (.int .i64), .d (.int .i64), .d (.int .i64), .d .str]), (200002, .lst 29 (.list r0) true), (200003, .mp r0)]⟩)]
noncomputable def cx29_0 : Cx := ⟨Tryz.prog, [e20, e43, e44, e45, e52, e53, e54, e56], [], 138, [], []⟩
noncomputable def B29_0 : sh29_0.D → Option (sh29_0.D ⊕ OutsD os29_0) := round cx29_0 (sub [1, 1, 1, 1, 1, 1, 1, 1, 1, 1, 0, 1, 0, 0] b29) sh29_0 os29_0
noncomputable def ce29_0 : CE := ⟨sh29_0, os29_0, loop B29_0⟩
theorem okc29_0 : CEOK Tryz.prog 138 (.loop (sub [1, 1, 1, 1, 1, 1, 1, 1, 1, 1, 0, 1, 0, 0] b29)) ce29_0 := round_ok (cx := cx29_0) (fun R => step_sound (all_fe (P := Tryz.prog) (l := [e20, e43, e44, e45, e52, e53, e54, e56]) ⟨ok20, ok43, ok44, ok45, ok52, ok53, ok54, ok56, trivial⟩) R) (needs_of (l := []) (by kernel_rfl) trivial) sh29_0 os29_0
@[reducible] def sh29_1 : Shape := ⟨[(8, .one (.ptr 200000 0)), (13, .one (.ptr 200001 0)), (16, .one (.own 200002)), (17, .one (.mp 200003)), (20, .one (.d (.int .i64))), (114, .one (.d (.list r0))), (115, .one (.d (.int .i64))), (116, .one (.d (.int .i64)))], [(200000, .box [.d .str, .d (.list r0), .d (.list r0), .d (.list r4), .d (.list r2), .d (.list r3)]), (200001, .box [.d .str, .d (.int .i64), .d (.int .i64), .d (.int .i64), .d .str]), (200002, .lst 29 (.list r0) true), (200003, .mp r0)]⟩
@[reducible] def os29_1 : List (XE × Shape) := [(.ex 4, ⟨[(8, .one (.ptr 200000 0)), (13, .one (.ptr 200001 0)), (16, .one (.own 200002)), (17, .one (.mp 200003)), (20, .one (.d (.int .i64)))], [(200000, .box [.d .str, .d (.list r0), .d (.list r0), .d (.list r4), .d (.list r2), .d (.list r3)]), (200001, .box [.d .str, .d (.int .i64), .d (.int .i64), .d (.int .i64), .d .str]), (200002, .lst 29 (.list r0) true), (200003, .mp r0)]⟩)]
noncomputable def cx29_1 : Cx := ⟨Tryz.prog, [e20, e43, e44, e45, e52, e53, e54, e56], [], 138, [(24, ce29_0)], []⟩
noncomputable def B29_1 : sh29_1.D → Option (sh29_1.D ⊕ OutsD os29_1) := round cx29_1 (sub [1, 1, 1, 1, 1, 1, 1, 1, 1, 1, 1, 0, 1, 0, 0, 1, 0, 0, 1, 1, 1, 1, 0, 0] b29) sh29_1 os29_1
noncomputable def ce29_1 : CE := ⟨sh29_1, os29_1, loop B29_1⟩
theorem okc29_1 : CEOK Tryz.prog 138 (.loop (sub [1, 1, 1, 1, 1, 1, 1, 1, 1, 1, 1, 0, 1, 0, 0, 1, 0, 0, 1, 1, 1, 1, 0, 0] b29)) ce29_1 := round_ok (cx := cx29_1) (fun R => step_sound (all_fe (P := Tryz.prog) (l := [e20, e43, e44, e45, e52, e53, e54, e56]) ⟨ok20, ok43, ok44, ok45, ok52, ok53, ok54, ok56, trivial⟩) R) (needs_of (l := []) (by kernel_rfl) trivial) sh29_1 os29_1
@[reducible] def sh29_2 : Shape := ⟨[(8, .one (.ptr 200000 0)), (13, .one (.ptr 200001 0)), (16, .one (.own 200002)), (17, .one (.mp 200003)), (20, .one (.d (.int .i64)))], [(200000, .box [.d .str, .d (.list r0), .d (.list r0), .d (.list r4), .d (.list r2), .d (.list r3)]), (200001, .box [.d .str, .d (.int .i64), .d (.int .i64), .d (.int .i64), .d .str]), (200002, .lst 29 (.list r0) true), (200003, .mp r0)]⟩
@[reducible] def os29_2 : List (XE × Shape) := [(.ret, ⟨[(6, .one (.own 200000)), (7, .one (.d .bool))], [(200000, .lst 43 r0 true)]⟩), (.ex 2, ⟨[], []⟩)]
noncomputable def cx29_2 : Cx := ⟨Tryz.prog, [e20, e43, e44, e45, e52, e53, e54, e56], [], 138, [(24, ce29_0), (52, ce29_1)], []⟩
noncomputable def B29_2 : sh29_2.D → Option (sh29_2.D ⊕ OutsD os29_2) := round cx29_2 (sub [1, 1, 1, 1, 1, 1, 1, 1, 1, 1, 1, 0, 1, 0, 0] b29) sh29_2 os29_2
noncomputable def ce29_2 : CE := ⟨sh29_2, os29_2, loop B29_2⟩
theorem okc29_2 : CEOK Tryz.prog 138 (.loop (sub [1, 1, 1, 1, 1, 1, 1, 1, 1, 1, 1, 0, 1, 0, 0] b29)) ce29_2 := round_ok (cx := cx29_2) (fun R => step_sound (all_fe (P := Tryz.prog) (l := [e20, e43, e44, e45, e52, e53, e54, e56]) ⟨ok20, ok43, ok44, ok45, ok52, ok53, ok54, ok56, trivial⟩) R) (needs_of (l := [((.loop (sub [1, 1, 1, 1, 1, 1, 1, 1, 1, 1, 1, 0, 1, 0, 0, 1, 0, 0, 1, 1, 1, 1, 0, 0] b29)), ce29_1)]) (by kernel_rfl) ⟨okc29_1, trivial⟩) sh29_2 os29_2
noncomputable def cx29 : Cx := ⟨Tryz.prog, [e20, e43, e44, e45, e52, e53, e54, e56], [], 138, [(24, ce29_0), (52, ce29_1), (38, ce29_2)], []⟩
noncomputable def F29 : sh29.D → Option out29.D := func cx29 Tryz.f29 b29 sh29 out29
noncomputable def e29 : FE := ⟨29, sh29, out29, F29⟩
theorem ok29 : FEOK Tryz.prog e29 := func_ok (cx := cx29) (fn := Tryz.f29) (c := b29) (all_fe (P := Tryz.prog) (l := [e20, e43, e44, e45, e52, e53, e54, e56]) ⟨ok20, ok43, ok44, ok45, ok52, ok53, ok54, ok56, trivial⟩) (by kernel_rfl) (by kernel_rfl) (by kernel_rfl) (by kernel_rfl) (by kernel_rfl) (needs_of (l := [((.loop (sub [1, 1, 1, 1, 1, 1, 1, 1, 1, 1, 0, 1, 0, 0] b29)), ce29_0), ((.loop (sub [1, 1, 1, 1, 1, 1, 1, 1, 1, 1, 1, 0, 1, 0, 0] b29)), ce29_2)]) (by kernel_rfl) ⟨okc29_0, okc29_2, trivial⟩)
@[reducible] def sh10 : Shape := ⟨[(0, .one (.d (.int .i64))), (1, .one (.d (.list (.int .i64)))), (2, .one (.d (.int .i64))), (3, .one (.d (.int .i64)))], []⟩
@[reducible] def out10 : Shape := ⟨[(0, .one (.d .bool))], []⟩
noncomputable def b10 : Code := Tryz.f10.body.getD .skip
noncomputable def cx10 : Cx := ⟨Tryz.prog, [e13, e14, e16, e19, e20, e21, e29], [], 109, [], []⟩
noncomputable def F10 : sh10.D → Option out10.D := func cx10 Tryz.f10 b10 sh10 out10
noncomputable def e10 : FE := ⟨10, sh10, out10, F10⟩
theorem ok10 : FEOK Tryz.prog e10 := func_ok (cx := cx10) (fn := Tryz.f10) (c := b10) (all_fe (P := Tryz.prog) (l := [e13, e14, e16, e19, e20, e21, e29]) ⟨ok13, ok14, ok16, ok19, ok20, ok21, ok29, trivial⟩) (by kernel_rfl) (by kernel_rfl) (by kernel_rfl) (by kernel_rfl) (by kernel_rfl) (needs_of (l := []) (by kernel_rfl) trivial)
@[reducible] def sh11 : Shape := ⟨[(0, .one (.d (.int .i64))), (1, .one (.d (.list (.int .i64)))), (2, .one (.d (.list (.int .i64)))), (3, .one (.d (.int .i64)))], []⟩
@[reducible] def out11 : Shape := ⟨[(0, .one (.d .bool))], []⟩
noncomputable def b11 : Code := Tryz.f11.body.getD .skip
noncomputable def cx11 : Cx := ⟨Tryz.prog, [e13, e14, e15, e16, e19, e22, e23, e26, e29, e30, e31, e32], [], 130, [], []⟩
noncomputable def F11 : sh11.D → Option out11.D := func cx11 Tryz.f11 b11 sh11 out11
noncomputable def e11 : FE := ⟨11, sh11, out11, F11⟩
theorem ok11 : FEOK Tryz.prog e11 := func_ok (cx := cx11) (fn := Tryz.f11) (c := b11) (all_fe (P := Tryz.prog) (l := [e13, e14, e15, e16, e19, e22, e23, e26, e29, e30, e31, e32]) ⟨ok13, ok14, ok15, ok16, ok19, ok22, ok23, ok26, ok29, ok30, ok31, ok32, trivial⟩) (by kernel_rfl) (by kernel_rfl) (by kernel_rfl) (by kernel_rfl) (by kernel_rfl) (needs_of (l := []) (by kernel_rfl) trivial)
@[reducible] def sh12 : Shape := ⟨[(0, .one (.d (.int .i64))), (1, .one (.d (.list (.int .i64)))), (2, .one (.d (.list (.int .i64)))), (3, .one (.d (.int .i64)))], []⟩
@[reducible] def out12 : Shape := ⟨[(0, .one (.d .bool))], []⟩
noncomputable def b12 : Code := Tryz.f12.body.getD .skip
@[reducible] def sh12_0 : Shape := ⟨[(9, .one (.ptr 200000 0)), (10, .one (.ptr 200001 0)), (16, .one (.d (.list r0))), (18, .one (.d (.int .i64))), (19, .one (.d (.list r0))), (20, .one (.d (.int .i64))), (21, .one (.d .bool)), (22, .one (.d (.int .i64)))], [(200000, .box [.d (.list r2), .d (.list r3)]), (200001, .box [.d .str, .d (.list r0), .d (.list r0), .d (.list r4)])]⟩
@[reducible] def os12_0 : List (XE × Shape) := [(.ex 2, ⟨[(9, .one (.ptr 200000 0)), (10, .one (.ptr 200001 0)), (16, .one (.d (.list r0))), (18, .one (.d (.int .i64))), (20, .one (.d (.int .i64))), (21, .one (.d .bool))], [(200000, .box [.d (.list r2), .d (.list r3)]), (200001, .box [.d .str, .d (.list r0), .d (.list r0), .d (.list r4)])]⟩)]
noncomputable def cx12_0 : Cx := ⟨Tryz.prog, [e13, e14, e15, e16, e19, e20, e26, e29], [], 129, [], []⟩
noncomputable def B12_0 : sh12_0.D → Option (sh12_0.D ⊕ OutsD os12_0) := round cx12_0 (sub [1, 1, 1, 1, 1, 1, 1, 1, 1, 1, 1, 0, 1, 0, 0, 1, 0, 0, 1, 1, 0, 1, 0, 0] b12) sh12_0 os12_0
noncomputable def ce12_0 : CE := ⟨sh12_0, os12_0, loop B12_0⟩
theorem okc12_0 : CEOK Tryz.prog 129 (.loop (sub [1, 1, 1, 1, 1, 1, 1, 1, 1, 1, 1, 0, 1, 0, 0, 1, 0, 0, 1, 1, 0, 1, 0, 0] b12)) ce12_0 := round_ok (cx := cx12_0) (fun R => step_sound (all_fe (P := Tryz.prog) (l := [e13, e14, e15, e16, e19, e20, e26, e29]) ⟨ok13, ok14, ok15, ok16, ok19, ok20, ok26, ok29, trivial⟩) R) (needs_of (l := []) (by kernel_rfl) trivial) sh12_0 os12_0
@[reducible] def sh12_1 : Shape := ⟨[(9, .one (.ptr 200000 0)), (10, .one (.ptr 200001 0)), (16, .one (.d (.list r0))), (18, .one (.d (.int .i64)))], [(200000, .box [.d (.list r2), .d (.list r3)]), (200001, .box [.d .str, .d (.list r0), .d (.list r0), .d (.list r4)])]⟩
@[reducible] def os12_1 : List (XE × Shape) := [(.ret, ⟨[(8, .one (.d .bool))], []⟩), (.ex 0, ⟨[], []⟩)]
noncomputable def cx12_1 : Cx := ⟨Tryz.prog, [e13, e14, e15, e16, e19, e20, e26, e29], [], 129, [(42, ce12_0)], []⟩
noncomputable def B12_1 : sh12_1.D → Option (sh12_1.D ⊕ OutsD os12_1) := round cx12_1 (sub [1, 1, 1, 1, 1, 1, 1, 1, 1, 1, 1, 0, 1, 0, 0] b12) sh12_1 os12_1
noncomputable def ce12_1 : CE := ⟨sh12_1, os12_1, loop B12_1⟩
theorem okc12_1 : CEOK Tryz.prog 129 (.loop (sub [1, 1, 1, 1, 1, 1, 1, 1, 1, 1, 1, 0, 1, 0, 0] b12)) ce12_1 := round_ok (cx := cx12_1) (fun R => step_sound (all_fe (P := Tryz.prog) (l := [e13, e14, e15, e16, e19, e20, e26, e29]) ⟨ok13, ok14, ok15, ok16, ok19, ok20, ok26, ok29, trivial⟩) R) (needs_of (l := [((.loop (sub [1, 1, 1, 1, 1, 1, 1, 1, 1, 1, 1, 0, 1, 0, 0, 1, 0, 0, 1, 1, 0, 1, 0, 0] b12)), ce12_0)]) (by kernel_rfl) ⟨okc12_0, trivial⟩) sh12_1 os12_1
noncomputable def cx12 : Cx := ⟨Tryz.prog, [e13, e14, e15, e16, e19, e20, e26, e29], [], 129, [(42, ce12_0), (32, ce12_1)], []⟩
noncomputable def F12 : sh12.D → Option out12.D := func cx12 Tryz.f12 b12 sh12 out12
noncomputable def e12 : FE := ⟨12, sh12, out12, F12⟩
theorem ok12 : FEOK Tryz.prog e12 := func_ok (cx := cx12) (fn := Tryz.f12) (c := b12) (all_fe (P := Tryz.prog) (l := [e13, e14, e15, e16, e19, e20, e26, e29]) ⟨ok13, ok14, ok15, ok16, ok19, ok20, ok26, ok29, trivial⟩) (by kernel_rfl) (by kernel_rfl) (by kernel_rfl) (by kernel_rfl) (by kernel_rfl) (needs_of (l := [((.loop (sub [1, 1, 1, 1, 1, 1, 1, 1, 1, 1, 1, 0, 1, 0, 0] b12)), ce12_1)]) (by kernel_rfl) ⟨okc12_1, trivial⟩)
end Go.Vx.Z
/-! A module's swap, its release, its versions; what is excluded: as the program finds them. -/
namespace Go.Vx
open Go
set_option linter.unusedVariables false
theorem loop_first {P E α : Type} {B : P → Option (P ⊕ E)} (xs : List α) (st : Nat → P) (p : α → Bool) (hit : Nat → α → E) (miss : E)
    (hs : ∀ i (h : i < xs.length), B (st i) = some (bif p xs[i] then .inr (hit i xs[i]) else .inl (st (i + 1)))) (he : B (st xs.length) = some (.inr miss)) :
    ∃ e, loop B (st 0) = some e ∧ ((xs.find? p = none ∧ e = miss) ∨ ∃ i x, xs.find? p = some x ∧ e = hit i x) := by
  have key : ∀ (n i : Nat), xs.length - i = n → i ≤ xs.length → ∃ e, loop B (st i) = some e ∧ (((xs.drop i).find? p = none ∧ e = miss) ∨ ∃ j x, (xs.drop i).find? p = some x ∧ e = hit j x) := by
    intro n
    induction n with
    | zero =>
      intro i h1 h2
      have : i = xs.length := by omega
      subst this
      exact ⟨miss, loop_end he, .inl ⟨by simp, rfl⟩⟩
    | succ n ih =>
      intro i h1 h2
      have hlt : i < xs.length := by omega
      have hb := hs i hlt
      rw [List.drop_eq_getElem_cons hlt, List.find?_cons]
      cases hp : p xs[i] with
      | true =>
        rw [hp] at hb
        exact ⟨_, loop_end hb, .inr ⟨i, xs[i], rfl, rfl⟩⟩
      | false =>
        rw [hp] at hb
        obtain ⟨e, h3, h4⟩ := ih (i + 1) (by omega) hlt
        exact ⟨e, loop_step hb h3, h4⟩
  have := key xs.length 0 (by omega) (by omega)
  simpa using this
theorem loop_find {P E α : Type} {B : P → Option (P ⊕ E)} (xs : List α) (st : Nat → P) (p : α → Bool) (hit : α → E) (miss : E)
    (hs : ∀ i (h : i < xs.length), B (st i) = some (bif p xs[i] then .inr (hit xs[i]) else .inl (st (i + 1)))) (he : B (st xs.length) = some (.inr miss)) :
    loop B (st 0) = some ((xs.find? p).elim miss hit) := by
  obtain ⟨e, h1, h2⟩ := loop_first xs st p (fun _ => hit) miss hs he
  rw [h1]
  rcases h2 with ⟨h3, h4⟩ | ⟨i, x, h3, h4⟩ <;> rw [h3, h4] <;> rfl
/-- A loop that gathers. -/
theorem loop_fold {P E α β : Type} {B : P → Option (P ⊕ E)} (xs : List α) (st : Nat → β → P) (f : β → α → β) (en : β → E) (b0 : β) (I : Nat → β → Prop) (h0 : I 0 b0)
    (hs : ∀ i (h : i < xs.length) b, I i b → B (st i b) = some (.inl (st (i + 1) (f b xs[i]))) ∧ I (i + 1) (f b xs[i])) (he : ∀ b, I xs.length b → B (st xs.length b) = some (.inr (en b))) :
    loop B (st 0 b0) = some (en (xs.foldl f b0)) := by
  have key : ∀ (n i : Nat) b, xs.length - i = n → i ≤ xs.length → I i b → loop B (st i b) = some (en ((xs.drop i).foldl f b)) := by
    intro n
    induction n with
    | zero =>
      intro i b h1 h2 hI
      have : i = xs.length := by omega
      subst this
      rw [List.drop_length]
      exact loop_end (he b hI)
    | succ n ih =>
      intro i b h1 h2 hI
      have hlt : i < xs.length := by omega
      obtain ⟨hb, hI'⟩ := hs i hlt b hI
      rw [List.drop_eq_getElem_cons hlt, List.foldl_cons]
      exact loop_step hb (ih (i + 1) _ (by omega) hlt hI')
  have := key xs.length 0 b0 (by omega) (by omega) h0
  simpa using this
theorem lt_in {i n : Nat} (h : i < n) : decide ((i : Int) < Int.ofNat n) = true := by simp; omega
theorem lt_out (n : Nat) : decide ((n : Int) < Int.ofNat n) = false := by simp
theorem ge_zero (i : Nat) : decide (Int.ofNat 0 ≤ (i : Int)) = true := by simp
theorem at_in {α : Type} {xs : List α} {i : Nat} (h : i < xs.length) : xs[Int.toNat (i : Int)]? = some xs[i] := by simp [h]
theorem wrap_next {i n : Nat} (h : i < n) (hn : n ≤ 9223372036854775807) : IntKind.wrap IntKind.i64 ((i : Int) + Int.ofNat 1) = ((i + 1 : Nat) : Int) := wrap64s i (by omega)
theorem beq_bs (a b : ByteArray) : (a.toList == b.toList) = (bs a == bs b) := by rw [bs_toList, bs_toList]
theorem bs_eq {a b : ByteArray} : (bs a == bs b) = true ↔ a = b := ⟨fun h => bs_inj (by simpa using h), fun h => by rw [h]; simp⟩
abbrev Swp := ByteArray × ByteArray × Ver
abbrev Rel := Int × Int × Int × ByteArray × List Req × ByteArray × ByteArray × Unit
abbrev Mod := ByteArray × List Rel × Unit
abbrev Rev := ByteArray × ByteArray × Bool × Bool × Int × Int × Int × ByteArray × Int × Unit
abbrev Blt := ByteArray × Int × Int × Int × ByteArray × ByteArray × Ver
def Rel.v (r : Rel) : Ver := (r.1, r.2.1, r.2.2.1, r.2.2.2.1, ())
def Rel.reqs (r : Rel) : List Req := r.2.2.2.2.1
def eqV (a b : Ver) : Bool := a.1 == b.1 && (a.2.1 == b.2.1 && (a.2.2.1 == b.2.2.1 && bs a.2.2.2.1 == bs b.2.2.2.1))
theorem eqV_iff {a b : Ver} : eqV a b = true ↔ a = b := by
  obtain ⟨a1, a2, a3, a4, u⟩ := a
  obtain ⟨b1, b2, b3, b4, u'⟩ := b
  simp only [eqV, Bool.and_eq_true, beq_iff_eq, Prod.mk.injEq, and_true]
  constructor
  · rintro ⟨h1, h2, h3, h4⟩; exact ⟨h1, h2, h3, bs_inj h4⟩
  · rintro ⟨h1, h2, h3, h4⟩; exact ⟨h1, h2, h3, by rw [h4]⟩
def eqR (a b : Req) : Bool := bs a.1 == bs b.1 && eqV a.2 b.2
theorem eqR_iff {a b : Req} : eqR a b = true ↔ a = b := by
  simp only [eqR, Bool.and_eq_true, bs_eq, eqV_iff]
  constructor
  · rintro ⟨h1, h2⟩; exact Prod.ext h1 h2
  · rintro rfl; exact ⟨rfl, rfl⟩
def swapOf (l : List Swp) (p : ByteArray) : Option Swp := l.find? fun y => bs y.1 == bs p
def modOf (w : List Mod) (p : ByteArray) : Option Mod := w.find? fun y => bs y.1 == bs p
def relsOf (w : List Mod) (p : ByteArray) : List Rel := (modOf w p).elim [] fun m => m.2.1
def relOf (w : List Mod) (p : ByteArray) (v : Ver) : Option Rel := (relsOf w p).find? fun y => eqV y.v v
def versOf (w : List Mod) (p : ByteArray) : List Ver := (relsOf w p).map Rel.v
def exclOf (l : List Req) (r : Req) : Bool := l.any (eqR r)
abbrev big : Nat := 1099511627776
end Go.Vx
namespace Go.Vx.Z
open Go Go.Vx
set_option linter.unusedVariables false
theorem F66_is (x0 : ByteArray) (x1 x2 : List Req) (sw : List Swp) (x4 : List Mod) (x5 : List Rev) (p : ByteArray) (h : sw.length ≤ big) :
    F66 (x0, x1, x2, sw, x4, x5, p, ()) = some ((swapOf sw p).elim (lit [], lit [], 0, 0, 0, lit [], false, ()) fun y => (y.1, y.2.1, y.2.2.1, y.2.2.2.1, y.2.2.2.2.1, y.2.2.2.2.2.1, true, ())) := by
  rw [F66_eq]
  rw [show (Int.ofNat 0 : Int) = ((0 : Nat) : Int) from rfl, loop_find (B := B66_0) sw (fun i => (p, sw, Int.ofNat sw.length, (i : Int), lit [], lit [], ((0 : Nat) : Int), ((0 : Nat) : Int), ((0 : Nat) : Int), lit [], ())) (fun y => bs y.1 == bs p)
    (fun y => .inl (true, y.1, y.2.1, y.2.2.1, y.2.2.2.1, y.2.2.2.2.1, y.2.2.2.2.2.1, ())) (.inr (lit [], lit [], ((0 : Nat) : Int), ((0 : Nat) : Int), ((0 : Nat) : Int), lit [], ())) ?_ ?_]
  · unfold swapOf
    cases sw.find? fun y => bs y.1 == bs p <;> rfl
  · intro i hi
    rw [B66_0_eq, lt_in hi, ge_zero, at_in hi, wrap_next hi (by simp only [big] at h; omega)]
    simp only [cond_true, Option.bind_some, beq_bs]
    cases bs sw[i].1 == bs p <;> rfl
  · rw [B66_0_eq, lt_out]; rfl
theorem F56_is (l : List Req) (h : l.length ≤ big) : F56 (l, ()) = some (l, ()) := by
  rw [F56_eq]
  have : decide (0 + l.length ≤ 2513169434916) = true := by simp only [decide_eq_true_eq]; simp only [big] at h; omega
  rw [this]
  cases l with
  | nil => simp [both]
  | cons => rfl
theorem F67_is (l : List Blt) (h : l.length ≤ big) : F67 (l, ()) = some (l, ()) := by
  rw [F67_eq]
  have : decide (0 + l.length ≤ 1256584717458) = true := by simp only [decide_eq_true_eq]; simp only [big] at h; omega
  rw [this]
  cases l with
  | nil => simp [both]
  | cons => rfl
theorem F111_is (w : List Mod) (rv : List Rev) (p : ByteArray) (h : w.length ≤ big) : F111 (w, rv, p, ()) = some ((modOf w p).elim (lit [], [], false, ()) fun m => (m.1, m.2.1, true, ())) := by
  rw [F111_eq]
  rw [show (Int.ofNat 0 : Int) = ((0 : Nat) : Int) from rfl, loop_find (B := B111_0) w (fun i => (p, w, Int.ofNat w.length, (i : Int), lit [], ())) (fun y => bs y.1 == bs p) (fun y => .inl (true, y.1, y.2.1, ())) (.inr (lit [], ())) ?_ ?_]
  · unfold modOf
    cases w.find? fun y => bs y.1 == bs p <;> rfl
  · intro i hi
    rw [B111_0_eq, lt_in hi, ge_zero, at_in hi, wrap_next hi (by simp only [big] at h; omega)]
    simp only [cond_true, Option.bind_some, beq_bs]
    cases bs w[i].1 == bs p <;> rfl
  · rw [B111_0_eq, lt_out]; rfl
/-- Lists of a world are short. -/
def okW (w : List Mod) : Prop := w.length ≤ big ∧ ∀ m ∈ w, m.2.1.length ≤ big ∧ ∀ r ∈ m.2.1, r.reqs.length ≤ big
theorem modOf_mem {w : List Mod} {p : ByteArray} {m : Mod} (h : modOf w p = some m) : m ∈ w := List.mem_of_find?_eq_some h
theorem relsOf_len {w : List Mod} {p : ByteArray} (h : okW w) : (relsOf w p).length ≤ big ∧ ∀ r ∈ relsOf w p, r.reqs.length ≤ big := by
  unfold relsOf
  cases hm : modOf w p with
  | none => simp
  | some m => exact h.2 m (modOf_mem hm)
theorem F86_is (w : List Mod) (rv : List Rev) (p : ByteArray) (v : Ver) (h : okW w) : F86 (w, rv, p, v.1, v.2.1, v.2.2.1, v.2.2.2.1, ()) =
    some ((relOf w p v).elim (0, 0, 0, lit [], [], lit [], lit [], false, ()) fun y => (y.1, y.2.1, y.2.2.1, y.2.2.2.1, y.2.2.2.2.1, y.2.2.2.2.2.1, y.2.2.2.2.2.2.1, true, ())) := by
  rw [F86_eq, F111_is w rv p h.1]
  have hl := (relsOf_len (p := p) h).1
  have hr : ∀ e : ByteArray × List Rel × Bool × Unit, e = (modOf w p).elim (lit [], [], false, ()) (fun m => (m.1, m.2.1, true, ())) → e.2.1 = relsOf w p := by
    intro e he
    subst he
    unfold relsOf
    cases modOf w p <;> rfl
  generalize hee : (modOf w p).elim (lit [], [], false, ()) (fun m => (m.1, m.2.1, true, ())) = e
  rw [Option.bind_some, hr e hee.symm]
  rw [show (Int.ofNat 0 : Int) = ((0 : Nat) : Int) from rfl, loop_find (B := B86_0) (relsOf w p) (fun i => (relsOf w p, Int.ofNat (relsOf w p).length, (i : Int), v.1, v.2.1, v.2.2.1, v.2.2.2.1, ((0 : Nat) : Int), ((0 : Nat) : Int), ((0 : Nat) : Int), lit [], lit [], lit [], ()))
    (fun y => eqV y.v v) (fun y => .inl (true, y.1, y.2.1, y.2.2.1, y.2.2.2.1, y.2.2.2.2.1, y.2.2.2.2.2.1, y.2.2.2.2.2.2.1, ())) (.inr (((0 : Nat) : Int), ((0 : Nat) : Int), ((0 : Nat) : Int), lit [], lit [], lit [], ())) ?_ ?_]
  · unfold relOf
    cases (relsOf w p).find? fun y => eqV y.v v <;> rfl
  · intro i hi
    rw [B86_0_eq, lt_in hi, ge_zero, at_in hi, wrap_next hi (by simp only [big] at hl; omega)]
    simp only [cond_true, Option.bind_some, beq_bs]
    show (bif eqV (relsOf w p)[i].v v then some _ else some _) = _
    cases eqV (relsOf w p)[i].v v <;> rfl
  · rw [B86_0_eq, lt_out]; rfl
theorem F69_is (w : List Mod) (rv : List Rev) (p : ByteArray) (v : Ver) (h : okW w) : F69 (w, rv, p, v.1, v.2.1, v.2.2.1, v.2.2.2.1, ()) =
    some ((relOf w p v).elim (0, 0, 0, lit [], [], lit [], lit [], false, ()) fun y => (y.1, y.2.1, y.2.2.1, y.2.2.2.1, y.2.2.2.2.1, y.2.2.2.2.2.1, y.2.2.2.2.2.2.1, true, ())) := by
  rw [F69_eq, F86_is w rv p v h, Option.bind_some]
  cases hr : relOf w p v with
  | none => simp only [Option.elim_none]; rw [F56_is [] (by simp [big])]; rfl
  | some y =>
    have : y ∈ relsOf w p := List.mem_of_find?_eq_some hr
    simp only [Option.elim_some]
    rw [F56_is y.2.2.2.2.1 ((relsOf_len h).2 y this)]
    rfl
theorem F112_is (l : List Req) (r : Req) (h : l.length ≤ big) : F112 (l, r.1, r.2.1, r.2.2.1, r.2.2.2.1, r.2.2.2.2.1, ()) = some (exclOf l r, ()) := by
  rw [F112_eq, F128_eq]
  rw [show (Int.ofNat 0 : Int) = ((0 : Nat) : Int) from rfl]
  obtain ⟨e, h1, h2⟩ := loop_first (B := B128_0) l (fun i => (l, Int.ofNat l.length, (i : Int), r.1, r.2.1, r.2.2.1, r.2.2.2.1, r.2.2.2.2.1, ())) (eqR r) (fun i _ => .inl ((i : Int), ())) (.inr ()) (by
    intro i hi
    rw [B128_0_eq, lt_in hi, ge_zero, at_in hi, wrap_next hi (by simp only [big] at h; omega)]
    simp only [cond_true, Option.bind_some, beq_bs]
    show (bif eqR r l[i] then some _ else some _) = _
    cases eqR r l[i] <;> rfl) (by rw [B128_0_eq, lt_out]; rfl)
  rw [h1]
  rcases h2 with ⟨h3, rfl⟩ | ⟨i, x, h3, rfl⟩
  · have : exclOf l r = false := by
      unfold exclOf
      rw [List.any_eq_false]
      intro x hx
      simpa using List.find?_eq_none.1 h3 x hx
    rw [this]; rfl
  · have : exclOf l r = true := by
      unfold exclOf
      rw [List.any_eq_true]
      exact ⟨x, List.mem_of_find?_eq_some h3, List.find?_some h3⟩
    rw [this]
    show some (decide ((i : Int) ≥ Int.ofNat 0), ()) = _
    simp
theorem F87_is (x0 : ByteArray) (x1 ex : List Req) (x3 : List Swp) (x4 : List Mod) (x5 : List Rev) (r : Req) (h : ex.length ≤ big) : F87 (x0, x1, ex, x3, x4, x5, r.1, r.2.1, r.2.2.1, r.2.2.2.1, r.2.2.2.2.1, ()) = some (exclOf ex r, ()) := by
  rw [F87_eq, F112_is ex r h]; rfl
theorem F89_is (w : List Mod) (rv : List Rev) (p : ByteArray) (h : okW w) : F89 (w, rv, p, ()) = some (versOf w p, ()) := by
  rw [F89_eq, F111_is w rv p h.1]
  have hl := (relsOf_len (p := p) h).1
  have hr : ∀ e : ByteArray × List Rel × Bool × Unit, e = (modOf w p).elim (lit [], [], false, ()) (fun m => (m.1, m.2.1, true, ())) → e.2.1 = relsOf w p := by
    intro e he
    subst he
    unfold relsOf
    cases modOf w p <;> rfl
  generalize hee : (modOf w p).elim (lit [], [], false, ()) (fun m => (m.1, m.2.1, true, ())) = e
  rw [Option.bind_some, hr e hee.symm]
  simp only [big] at hl
  have e1 : (decide (Int.ofNat 0 ≤ Int.ofNat (relsOf w p).length) && decide (Int.ofNat 40 * Int.ofNat (relsOf w p).length ≤ Int.ofNat 281474976710656) && decide (Int.ofNat (relsOf w p).length ≤ Int.ofNat 9223372036854775807)) = true := by
    simp only [Bool.and_eq_true, decide_eq_true_eq, Int.ofNat_eq_natCast]
    omega
  rw [e1, cond_true]
  rw [show (Int.ofNat 0 : Int) = ((0 : Nat) : Int) from rfl, loop_fold (B := B89_0) (relsOf w p) (fun i b => (relsOf w p, Int.ofNat (relsOf w p).length, (i : Int), b, ())) (fun b y => b ++ [y.v]) (fun b => (b, ())) [] (fun i b => b.length = i) rfl ?_ ?_]
  · have : ∀ (l : List Rel) (b : List Ver), l.foldl (fun b y => b ++ [y.v]) b = b ++ l.map Rel.v := by
      intro l
      induction l with
      | nil => simp
      | cons x l ih => intro b; rw [List.foldl_cons, ih]; simp
    rw [this]
    rfl
  · intro i hi b hb
    refine ⟨?_, by simp [hb]⟩
    rw [B89_0_eq, lt_in hi, ge_zero, at_in hi, wrap_next hi (by omega)]
    simp only [cond_true, Option.bind_some]
    have e2 : ∀ q : Ver, decide (b.length + [q].length ≤ 3518437208883) = true := by intro q; simp; omega
    rw [e2]
    rfl
  · intro b hb
    rw [B89_0_eq, lt_out]; rfl
end Go.Vx.Z
/-! What is asked for, as the program takes it. -/
namespace Go.Vx
open Go
set_option linter.unusedVariables false
theorem loop_upto {P E β : Type} {B : P → Option (P ⊕ E)} (n : Nat) (st : Nat → β → P) (en : β → E) (I : Nat → β → Prop)
    (hs : ∀ i, i < n → ∀ b, I i b → ∃ b', B (st i b) = some (.inl (st (i + 1) b')) ∧ I (i + 1) b') (he : ∀ b, I n b → B (st n b) = some (.inr (en b))) : ∀ k b, k ≤ n → I k b → ∃ b', loop B (st k b) = some (en b') ∧ I n b' := by
  have key : ∀ (d k : Nat) b, n - k = d → k ≤ n → I k b → ∃ b', loop B (st k b) = some (en b') ∧ I n b' := by
    intro d
    induction d with
    | zero =>
      intro k b h1 h2 hI
      have : k = n := by omega
      subst this
      exact ⟨b, loop_end (he b hI), hI⟩
    | succ d ih =>
      intro k b h1 h2 hI
      obtain ⟨b', h3, h4⟩ := hs k (by omega) b hI
      obtain ⟨b'', h5, h6⟩ := ih (k + 1) b' (by omega) (by omega) h4
      exact ⟨b'', loop_step h3 h5, h6⟩
  intro k b hk hI
  exact key (n - k) k b rfl hk hI
theorem lt_both {i n : Nat} (h : i < n) : (decide (Int.ofNat 0 ≤ (i : Int)) && decide ((i : Int) < Int.ofNat n)) = true := by rw [ge_zero, lt_in h]; rfl
def delP (ex : List Req) (r : Req) (v : Ver) : Bool := decide (cmpV v r.2 ≥ 0) || exclOf ex (r.1, v)
/-- The versions that are left below. -/
def belowOf (w : List Mod) (ex : List Req) (r : Req) : List Ver := (versOf w r.1).filter fun v => !delP ex r v
/-- The greatest of some versions. -/
def maxV : List Ver → Ver
  | [] => (0, 0, 0, lit [], ())
  | v :: l => l.foldl (fun m x => if cmpV x m > 0 then x else m) v
/-- What is asked for, as it is taken: an error; left out; a pair. -/
def saidOf (md : ByteArray) (ex : List Req) (sw : List Swp) (w : List Mod) (r : Req) : Int × Option Req :=
  if (swapOf sw r.1).isSome then (0, some r)
  else if r.1 = md then (0, none)
  else if exclOf ex r = true then (if belowOf w ex r = [] then (13, none) else (0, some (r.1, maxV (belowOf w ex r))))
  else if (relOf w r.1 r.2).isSome then (0, some r) else (9, none)
/-- As it is taken, all, in order; the first error. -/
def allOf (md : ByteArray) (ex : List Req) (sw : List Swp) (w : List Mod) : List Req → Int × List Req
  | [] => (0, [])
  | r :: l => if (saidOf md ex sw w r).1 = 0 then
      (if (allOf md ex sw w l).1 = 0 then (0, (saidOf md ex sw w r).2.toList ++ (allOf md ex sw w l).2) else ((allOf md ex sw w l).1, []))
    else ((saidOf md ex sw w r).1, [])
end Go.Vx
namespace Go.Vx.Z
open Go Go.Vx
set_option linter.unusedVariables false
set_option maxRecDepth 100000
/-- A world, a manifest of which all is of a right size. -/
structure okS (ex : List Req) (sw : List Swp) (w : List Mod) : Prop where
  hex : ex.length ≤ big
  hsw : sw.length ≤ big
  hw : okW w
  vers : ∀ m ∈ w, ∀ y ∈ m.2.1, okV y.v = true
  reqs : ∀ m ∈ w, ∀ y ∈ m.2.1, ∀ q ∈ y.reqs, okR q = true
theorem versOf_ok {w : List Mod} {p : ByteArray} (h : okW w) (hv : ∀ m ∈ w, ∀ y ∈ m.2.1, okV y.v = true) : (versOf w p).length ≤ big ∧ ∀ v ∈ versOf w p, okV v = true := by
  refine ⟨by rw [versOf, List.length_map]; exact (relsOf_len h).1, fun v hv' => ?_⟩
  unfold versOf relsOf at hv'
  cases hm : modOf w p with
  | none => rw [hm] at hv'; simp at hv'
  | some m =>
    rw [hm] at hv'
    obtain ⟨y, h1, rfl⟩ := List.mem_map.1 hv'
    exact hv m (modOf_mem hm) y h1
section
variable (md : ByteArray) (rq ex : List Req) (sw : List Swp) (w : List Mod) (rv : List Rev) (r : Req)
theorem F90_is (v : Ver) (hv : okV v = true) (hr : okV r.2 = true) (h : ex.length ≤ big) : F90 (v.1, v.2.1, v.2.2.1, v.2.2.2.1, r.1, r.2.1, r.2.2.1, r.2.2.2.1, r.2.2.2.2.1, md, rq, ex, sw, w, rv, ()) =
    some (delP ex r v, r.1, r.2.1, r.2.2.1, r.2.2.2.1, r.2.2.2.2.1, md, rq, ex, sw, w, rv, ()) := by
  rw [F90_eq, F76_is v r.2 hv hr, Option.bind_some]
  unfold delP
  cases hc : decide (cmpV v r.2 ≥ 0) with
  | true => rfl
  | false =>
    rw [cond_false]
    have := F87_is md rq ex sw w rv (r.1, v) h
    rw [this]
    rfl
theorem F113_is (l : List Ver) (hl : ∀ v ∈ l, okV v = true) (hr : okV r.2 = true) (h : ex.length ≤ big) (hn : l.length ≤ big) :
    ∃ e : Int, F113 (l, r.1, r.2.1, r.2.2.1, r.2.2.2.1, r.2.2.2.2.1, md, rq, ex, sw, w, rv, ()) = some (e, l, r.1, r.2.1, r.2.2.1, r.2.2.2.1, r.2.2.2.2.1, md, rq, ex, sw, w, rv, ()) ∧
      ((e = -1 ∧ l.filter (fun v => !delP ex r v) = l) ∨ ∃ i : Nat, e = i ∧ i < l.length ∧ (l.take (i + 1)).filter (fun v => !delP ex r v) = l.take i) := by
  rw [F113_eq]
  obtain ⟨e, h1, h2⟩ := loop_inv (B := B113_0) (fun p => ∃ i : Nat, i ≤ l.length ∧ (l.take i).filter (fun v => !delP ex r v) = l.take i ∧ p = (Int.ofNat l.length, (i : Int), l, r.1, r.2.1, r.2.2.1, r.2.2.2.1, r.2.2.2.2.1, md, rq, ex, sw, w, rv, ())) (fun p => (Int.ofNat l.length - p.2.1).toNat)
    (fun e => (e = .inr (l, r.1, r.2.1, r.2.2.1, r.2.2.2.1, r.2.2.2.2.1, md, rq, ex, sw, w, rv, ()) ∧ l.filter (fun v => !delP ex r v) = l) ∨
      ∃ i : Nat, i < l.length ∧ (l.take (i + 1)).filter (fun v => !delP ex r v) = l.take i ∧ e = .inl ((i : Int), l, r.1, r.2.1, r.2.2.1, r.2.2.2.1, r.2.2.2.2.1, md, rq, ex, sw, w, rv, ())) (by
      rintro p ⟨i, hi, ha, rfl⟩
      rw [B113_0_eq]
      by_cases hlt : i < l.length
      · rw [lt_in hlt, ge_zero, at_in hlt, wrap_next hlt (by simp only [big] at hn; omega)]
        simp only [Bool.and_self, cond_true, Option.bind_some]
        rw [F90_is md rq ex sw w rv r l[i] (hl _ (List.getElem_mem hlt)) hr h, Option.bind_some]
        have htk : l.take (i + 1) = l.take i ++ [l[i]] := by rw [List.take_succ_eq_append_getElem hlt]
        cases hd : delP ex r l[i] with
        | true =>
          refine .inr ⟨_, rfl, .inr ⟨i, hlt, ?_, rfl⟩⟩
          rw [htk, List.filter_append, ha]
          simp [hd]
        | false =>
          refine .inl ⟨_, rfl, ⟨i + 1, hlt, ?_, rfl⟩, ?_⟩
          · rw [htk, List.filter_append, ha]
            simp [hd]
          · simp; omega
      · have : i = l.length := by omega
        subst this
        rw [lt_out]
        refine .inr ⟨_, rfl, .inl ⟨rfl, ?_⟩⟩
        simpa using ha) (Int.ofNat l.length, Int.ofNat 0, l, r.1, r.2.1, r.2.2.1, r.2.2.2.1, r.2.2.2.2.1, md, rq, ex, sw, w, rv, ()) ⟨0, by omega, by simp, rfl⟩
  rw [h1, Option.bind_some]
  rcases h2 with ⟨rfl, h3⟩ | ⟨i, hi, h3, rfl⟩
  · exact ⟨-1, rfl, .inl ⟨rfl, h3⟩⟩
  · exact ⟨i, rfl, .inr ⟨i, rfl, hi, h3⟩⟩
theorem F88_is (l : List Ver) (hl : ∀ v ∈ l, okV v = true) (hr : okV r.2 = true) (h : ex.length ≤ big) (hn : l.length ≤ big) :
    ∃ l', F88 (l, r.1, r.2.1, r.2.2.1, r.2.2.2.1, r.2.2.2.2.1, md, rq, ex, sw, w, rv, ()) = some (l.filter (fun v => !delP ex r v), l', r.1, r.2.1, r.2.2.1, r.2.2.2.1, r.2.2.2.2.1, md, rq, ex, sw, w, rv, ()) := by
  rw [F88_eq]
  obtain ⟨e, h1, h2⟩ := F113_is md rq ex sw w rv r l hl hr h hn
  rw [h1, Option.bind_some]
  rcases h2 with ⟨rfl, h3⟩ | ⟨i, rfl, hi, h3⟩
  · rw [show ((-1 : Int) == Int.negSucc 0) = true from rfl, cond_true]
    exact ⟨l, by rw [h3]⟩
  · have hne : ((i : Int) == Int.negSucc 0) = false := by simp
    simp only [hne, cond_false]
    rw [wrap_next hi (by simp only [big] at hn; omega)]
    obtain ⟨⟨i', l'⟩, h4, h5⟩ := loop_upto (B := B88_0) l.length (fun j (b : Nat × List Ver) => ((b.1 : Int), (j : Int), b.2, r.1, r.2.1, r.2.2.1, r.2.2.2.1, r.2.2.2.2.1, md, rq, ex, sw, w, rv, ()))
      (fun b => ((b.1 : Int), b.2, r.1, r.2.1, r.2.2.1, r.2.2.2.1, r.2.2.2.2.1, md, rq, ex, sw, w, rv, ()))
      (fun j b => b.1 < j ∧ b.2.length = l.length ∧ b.2.drop j = l.drop j ∧ b.2.take b.1 = (l.take j).filter (fun v => !delP ex r v)) (by
        rintro j hj ⟨i0, b⟩ ⟨q1, q2, q3, q4⟩
        simp only at q1 q2 q3 q4 ⊢
        have hjb : j < b.length := by omega
        have hbj : b[j] = l[j] := by
          have e1 := List.drop_eq_getElem_cons hjb
          have e2 := List.drop_eq_getElem_cons hj
          rw [q3, e2] at e1
          injection e1 with e1 _
          exact e1.symm
        have hdrop : b.drop (j + 1) = l.drop (j + 1) := by
          have := congrArg (List.drop 1) q3
          simpa [List.drop_drop] using this
        have htk : l.take (j + 1) = l.take j ++ [l[j]] := by rw [List.take_succ_eq_append_getElem hj]
        have hat : b[Int.toNat (j : Int)]? = some l[j] := by rw [at_in hjb, hbj]
        rw [B88_0_eq, lt_in hjb, ge_zero, hat, wrap_next hjb (by simp only [big] at hn; omega)]
        simp only [Bool.and_self, cond_true, Option.bind_some]
        rw [F90_is md rq ex sw w rv r l[j] (hl _ (List.getElem_mem hj)) hr h, Option.bind_some]
        cases hd : delP ex r l[j] with
        | true =>
          refine ⟨(i0, b), rfl, by simp only; omega, q2, hdrop, ?_⟩
          rw [htk, List.filter_append, q4]
          simp [hd]
        | false =>
          have hi0 : i0 < b.length := by omega
          simp only [Bool.not_false, cond_true]
          rw [lt_both hi0, at_in hi0, wrap_next hi0 (by simp only [big] at hn; omega)]
          refine ⟨(i0 + 1, b.set i0 l[j]), rfl, by simp only; omega, by simp [q2], ?_, ?_⟩
          · simp only
            rw [List.drop_set_of_lt (by omega)]
            exact hdrop
          · simp only
            rw [htk, List.filter_append, ← q4]
            have : (b.set i0 l[j]).take (i0 + 1) = b.take i0 ++ [l[j]] := by
              rw [List.take_succ_eq_append_getElem (by simpa using hi0)]
              rw [List.take_set_of_le (Nat.le_refl _)]
              simp
            rw [this]
            simp [hd]) (by
        rintro ⟨i0, b⟩ ⟨q1, q2, q3, q4⟩
        simp only at q2 ⊢
        rw [B88_0_eq, q2, lt_out]
        rfl) (i + 1) (i, l) hi ⟨by simp only; omega, rfl, rfl, by simp only; rw [h3]⟩
    rw [h4, Option.bind_some]
    obtain ⟨q1, q2, q3, q4⟩ := h5
    simp only at q1 q2 q3 q4 ⊢
    have hle : i' ≤ l'.length := by omega
    have e1 : (decide (Int.ofNat 0 ≤ (i' : Int)) && (decide ((i' : Int) ≤ Int.ofNat l'.length) && (decide (Int.ofNat l'.length ≤ Int.ofNat l'.length) && decide (Int.ofNat l'.length ≤ Int.ofNat l'.length)))) = true := by
      simp; exact hle
    rw [e1, cond_true]
    have e2 : ∀ (z : Ver), (l'.take (0 + Int.toNat (i' : Int)) ++ List.replicate (0 + Int.toNat (Int.ofNat l'.length) - (0 + Int.toNat (i' : Int))) z ++ l'.drop (0 + Int.toNat (i' : Int) + (0 + Int.toNat (Int.ofNat l'.length) - (0 + Int.toNat (i' : Int))))).length = l'.length := by
      intro z; simp; omega
    have e3 : (decide (Int.ofNat 0 ≤ (i' : Int)) && (decide ((i' : Int) ≤ Int.ofNat l'.length) && decide (Int.ofNat l'.length ≤ Int.ofNat l'.length))) = true := by
      simp; exact hle
    rw [e2, e3, cond_true]
    have hfl : ∀ (z : Ver), List.drop 0 (List.take (0 + Int.toNat (i' : Int)) (l'.take (0 + Int.toNat (i' : Int)) ++ List.replicate (0 + Int.toNat (Int.ofNat l'.length) - (0 + Int.toNat (i' : Int))) z ++ l'.drop (0 + Int.toNat (i' : Int) + (0 + Int.toNat (Int.ofNat l'.length) - (0 + Int.toNat (i' : Int)))))) = l.filter (fun v => !delP ex r v) := by
      intro z
      rw [List.take_length] at q4
      rw [← q4]
      simp [hle]
    rw [hfl]
    exact ⟨_, rfl⟩
theorem F114_is (v : Ver) (l : List Ver) (hl : ∀ x ∈ v :: l, okV x = true) (hn : l.length < big) : F114 (v :: l, ()) = some (maxV (v :: l)) := by
  rw [F114_eq]
  have e0 : decide (Int.ofNat (v :: l).length < Int.ofNat 1) = false := by simp; omega
  rw [e0, cond_false]
  show (Option.bind (loop B114_0 _) _) = _
  obtain ⟨m, h4, h5⟩ := loop_upto (B := B114_0) (v :: l).length (fun j (m : Ver) => (v :: l, (j : Int), Int.ofNat 0, Int.ofNat 0, Int.ofNat 0, lit [], m.1, m.2.1, m.2.2.1, m.2.2.2.1, ()))
    (fun m => (Int.ofNat 0, Int.ofNat 0, Int.ofNat 0, lit [], m.1, m.2.1, m.2.2.1, m.2.2.2.1, ())) (fun j m => 1 ≤ j ∧ okV m = true ∧ m = (l.take (j - 1)).foldl (fun m x => if cmpV x m > 0 then x else m) v) (by
      rintro j hj m ⟨q1, q2, q3⟩
      rw [B114_0_eq, lt_in hj, ge_zero, at_in hj, wrap_next hj (by simp only [big] at hn; simp; omega)]
      simp only [cond_true, Option.bind_some]
      have hok := hl _ (List.getElem_mem hj)
      rw [F76_is (v :: l)[j] m hok q2, Option.bind_some]
      have hj' : j - 1 < l.length := by simp at hj; omega
      have hgj : (v :: l)[j] = l[j - 1] := by
        rw [List.getElem_cons, dif_neg (by omega)]
      have htk : l.take (j + 1 - 1) = l.take (j - 1) ++ [l[j - 1]] := by rw [show j + 1 - 1 = j - 1 + 1 by omega, List.take_succ_eq_append_getElem hj']
      have hfo : (l.take (j + 1 - 1)).foldl (fun m x => if cmpV x m > 0 then x else m) v = if cmpV (v :: l)[j] m > 0 then (v :: l)[j] else m := by
        rw [htk, List.foldl_append, ← q3, hgj]; rfl
      by_cases hc : cmpV (v :: l)[j] m > 0
      · rw [show decide ((cmpV (v :: l)[j] m, ()).1 > Int.ofNat 0) = true from decide_eq_true hc]
        refine ⟨(v :: l)[j], rfl, by omega, hok, ?_⟩
        rw [hfo, if_pos hc]
      · rw [show decide ((cmpV (v :: l)[j] m, ()).1 > Int.ofNat 0) = false from decide_eq_false hc]
        refine ⟨m, rfl, by omega, q2, ?_⟩
        rw [hfo, if_neg hc]) (by
      rintro m ⟨q1, q2, q3⟩
      rw [B114_0_eq, lt_out]
      rfl) 1 v (by simp) ⟨Nat.le_refl _, hl _ (by simp), by simp⟩
  rw [show (Int.ofNat 1 : Int) = ((1 : Nat) : Int) from rfl, h4, Option.bind_some]
  obtain ⟨q1, q2, q3⟩ := h5
  show some m = _
  rw [q3]
  simp [maxV]
theorem F91_is (l : List Ver) (hl : ∀ x ∈ l, okV x = true) (hn : l.length ≤ big) : F91 (l, ()) = some (maxV l) := by
  rw [F91_eq]
  cases l with
  | nil => rfl
  | cons v l =>
    have e0 : (Int.ofNat (v :: l).length == Int.ofNat 0) = false := by simp; omega
    rw [e0, cond_false, F114_is v l hl (by simp at hn; omega)]
    rfl
theorem F72_is (hr : okV r.2 = true) (h : okS ex sw w) : F72 (md, rq, ex, sw, w, rv, r.1, r.2.1, r.2.2.1, r.2.2.2.1, r.2.2.2.2.1, ()) =
    some ((saidOf md ex sw w r).2.elim (lit [], 0, 0, 0, lit [], false, (saidOf md ex sw w r).1, ()) fun q => (q.1, q.2.1, q.2.2.1, q.2.2.2.1, q.2.2.2.2.1, true, 0, ())) := by
  rw [F72_eq, F66_is md rq ex sw w rv r.1 h.hsw]
  unfold saidOf
  cases hsw : swapOf sw r.1 with
  | some y => rfl
  | none =>
    rw [Option.bind_some]
    simp only [Option.elim_none, Option.isSome_none, Bool.false_eq_true, if_false, cond_false, beq_bs]
    by_cases hmd : r.1 = md
    · rw [if_pos hmd, show (bs r.1 == bs md) = true from bs_eq.2 hmd]
      rfl
    · rw [if_neg hmd, show (bs r.1 == bs md) = false from by rw [← Bool.not_eq_true]; exact fun e => hmd (bs_eq.1 e)]
      rw [cond_false, F87_is md rq ex sw w rv r h.hex, Option.bind_some]
      cases hex : exclOf ex r with
      | false =>
        simp only [Bool.not_false, cond_true, Bool.false_eq_true, if_false]
        rw [F69_is w rv r.1 r.2 h.hw]
        cases relOf w r.1 r.2 <;> rfl
      | true =>
        simp only [Bool.not_true, cond_false, if_true]
        obtain ⟨hvl, hvo⟩ := versOf_ok (p := r.1) h.hw h.vers
        rw [F89_is w rv r.1 h.hw, Option.bind_some]
        obtain ⟨l', h88⟩ := F88_is md rq ex sw w rv r (versOf w r.1) hvo hr h.hex hvl
        simp only
        rw [h88, Option.bind_some]
        show (bif Int.ofNat (belowOf w ex r).length == Int.ofNat 0 then _ else Option.bind (F91 (belowOf w ex r, ())) _) = _
        cases hb : belowOf w ex r with
        | nil => rfl
        | cons v l =>
          have e0 : (Int.ofNat (v :: l).length == Int.ofNat 0) = false := by simp; omega
          have hsub : ∀ x ∈ v :: l, x ∈ versOf w r.1 := fun x hx => by rw [← hb] at hx; exact (List.mem_filter.1 hx).1
          have hlen : (v :: l).length ≤ big := by rw [← hb]; exact Nat.le_trans (List.length_filter_le _ _) hvl
          rw [e0, cond_false, F91_is (v :: l) (fun x hx => hvo x (hsub x hx)) hlen, if_neg (by simp)]
          rfl
end
end Go.Vx.Z
namespace Go.Vx.Z
open Go Go.Vx Go.Proofs
set_option linter.unusedVariables false
set_option maxRecDepth 1000000
set_option maxHeartbeats 4000000
theorem F52_eq (x0 : ByteArray) (x1 x2 : List (Ty.D r0)) (x3 : List (Ty.D r4)) (x4 : List (Ty.D r2)) (x5 : List (Ty.D r3)) (x6 : ByteArray) (x7 x8 x9 : Int) (x10 : ByteArray) : F52 (x0, x1, x2, x3, x4, x5, x6, x7, x8, x9, x10, ()) = Option.bind (F66 (x0, x1, x2, x3, x4, x5, x6, ())) fun (r : ByteArray × ByteArray × Int × Int × Int × ByteArray × Bool × Unit) => bif r.2.2.2.2.2.2.1 then
 Option.bind (F69 (x4, x5, r.2.1, r.2.2.1, r.2.2.2.1, r.2.2.2.2.1, r.2.2.2.2.2.1, ())) fun (r : Int × Int × Int × ByteArray × List (ByteArray × Int × Int × Int × ByteArray × Unit) × ByteArray × ByteArray × Bool × Unit) => bif !r.2.2.2.2.2.2.2.1 then some ([], Int.ofNat 9, ()) else Option.bind (F53 (x0, x1, x2, x3, x4, x5, r.2.2.2.2.1, ()))
 fun (r : Int × List (ByteArray × Int × Int × Int × ByteArray × Unit) × Unit) => bif !r.1 == Int.ofNat 0 then some ([], r.1, ()) else Option.bind (F54 (r.2.1, ())) fun (r : List (ByteArray × Int × Int × Int × ByteArray × Unit) × Unit) => Option.bind (F71 (r.1, ())) fun (r : List (ByteArray × Int × Int × Int × ByteArray × Unit) × List (ByteArray × Int × Int × Int × ByteArray × Unit) × Unit) =>
 Option.bind (F70 (r.1, ())) fun (r : List (ByteArray × Int × Int × Int × ByteArray × Unit) × Unit) => some (r.1, Int.ofNat 0, ()) else Option.bind (F69 (x4, x5, x6, x7, x8, x9, x10, ())) fun (r : Int × Int × Int × ByteArray × List (ByteArray × Int × Int × Int × ByteArray × Unit) × ByteArray × ByteArray × Bool × Unit) => bif !r.2.2.2.2.2.2.2.1 then some ([], Int.ofNat 9, ()) else
 Option.bind (F53 (x0, x1, x2, x3, x4, x5, r.2.2.2.2.1, ())) fun (r : Int × List (ByteArray × Int × Int × Int × ByteArray × Unit) × Unit) => bif !r.1 == Int.ofNat 0 then some ([], r.1, ()) else Option.bind (F54 (r.2.1, ())) fun (r : List (ByteArray × Int × Int × Int × ByteArray × Unit) × Unit) => Option.bind (F71 (r.1, ())) fun (r : List (ByteArray × Int × Int × Int × ByteArray × Unit) ×
 List (ByteArray × Int × Int × Int × ByteArray × Unit) × Unit) => Option.bind (F70 (r.1, ())) fun (r : List (ByteArray × Int × Int × Int × ByteArray × Unit) × Unit) => some (r.1, Int.ofNat 0, ()) := by kernel_rfl
theorem B44_0_eq (x0 x1 : Int) (x2 : ByteArray) (x3 x4 : List (Ty.D r0)) (x5 : List (Ty.D r4)) (x6 : List (Ty.D r2)) (x7 : List (Ty.D r3)) (x8 : List (Ty.D r0)) (x9 : List (Ty.D r0 × Bool)) (x10 : List (Ty.D r0)) : B44_0 (x0, x1, x2, x3, x4, x5, x6, x7, x8, x9, x10, ()) = bif x0 == Int.ofNat 0 then bif decide (x1 < Int.ofNat (List.length x8)) then
 bif decide (Int.ofNat 0 ≤ x1) && decide (x1 < Int.ofNat (List.length x8)) then Option.bind x8[Int.toNat x1]? fun (y : ByteArray × Int × Int × Int × ByteArray × Unit) => Option.bind (mget (Cx.T cx44_0) 43 (rowTy.onto Ty.str (rowTy.onto (rowTy.onto (Ty.int IntKind.i64) (rowTy.onto (Ty.int IntKind.i64) (rowTy.onto (Ty.int IntKind.i64) (rowTy.onto Ty.str Ty.unit)))) Ty.unit))
 (y.1, y.2.1, y.2.2.1, y.2.2.2.1, y.2.2.2.2.1, ()) x9) fun (b : Bool) => bif b then some (Sum.inl (x0, IntKind.wrap IntKind.i64 (x1 + Int.ofNat 1), x2, x3, x4, x5, x6, x7, x8, x9, x10, ())) else Option.bind (mput (Cx.T cx44_0) 43 (rowTy.onto Ty.str (rowTy.onto (rowTy.onto (Ty.int IntKind.i64) (rowTy.onto (Ty.int IntKind.i64) (rowTy.onto (Ty.int IntKind.i64) (rowTy.onto Ty.str Ty.unit))))
 Ty.unit)) (y.1, y.2.1, y.2.2.1, y.2.2.2.1, y.2.2.2.2.1, ()) true x9) fun (es' : List ((ByteArray × Int × Int × Int × ByteArray × Unit) × Bool)) => bif decide (List.length x10 + List.length [(y.1, y.2.1, y.2.2.1, y.2.2.2.1, y.2.2.2.2.1, ())] ≤ 2513169434916) then Option.bind (F52 (x2, x3, x4, x5, x6, x7, y.1, y.2.1, y.2.2.1, y.2.2.2.1, y.2.2.2.2.1, ()))
 fun (r : List (ByteArray × Int × Int × Int × ByteArray × Unit) × Int × Unit) => bif decide (List.length x8 + List.length r.1 ≤ 2513169434916) then some (Sum.inl (r.2.1, IntKind.wrap IntKind.i64 (x1 + Int.ofNat 1), x2, x3, x4, x5, x6, x7, x8 ++ r.1, es', x10 ++ [(y.1, y.2.1, y.2.2.1, y.2.2.2.1, y.2.2.2.2.1, ())], ())) else none else none else none else some (Sum.inr (x0, x10, ()))
 else some (Sum.inr (x0, x10, ())) := by kernel_rfl
theorem F44_eq (x0 : ByteArray) (x1 x2 : List (Ty.D r0)) (x3 : List (Ty.D r4)) (x4 : List (Ty.D r2)) (x5 : List (Ty.D r3)) : F44 (x0, x1, x2, x3, x4, x5, ()) = Option.bind (F53 (x0, x1, x2, x3, x4, x5, x1, ())) fun (r : Int × List (ByteArray × Int × Int × Int × ByteArray × Unit) × Unit) => Option.bind (loop B44_0 (r.1, Int.ofNat 0, x0, x1, x2, x3, x4, x5, r.2.1, [], [], ()))
 fun (r : Int × List (ByteArray × Int × Int × Int × ByteArray × Unit) × Unit) => bif !r.1 == Int.ofNat 0 then some ([], r.1, ()) else some (r.2.1, Int.ofNat 0, ()) := by kernel_rfl
theorem F64_eq (x0 : List (Ty.D r0)) : F64 (x0, ()) = Option.bind (F83 (x0, ())) fun (r : List (ByteArray × Int × Int × Int × ByteArray × Unit) × List (ByteArray × Int × Int × Int × ByteArray × Unit) × Unit) => Option.bind (F54 (r.2.1, ())) fun (r_1 : List (ByteArray × Int × Int × Int × ByteArray × Unit) × Unit) => some (r.1, r_1.1, ()) := by kernel_rfl
theorem B45_0_eq (x0 x1 : Int) (x2 : List (Ty.D r0)) (x3 : ByteArray) (x4 x5 : List (Ty.D r0)) (x6 : List (Ty.D r4)) (x7 : List (Ty.D r2)) (x8 : List (Ty.D r3)) (x9 : List (Ty.D r6)) : B45_0 (x0, x1, x2, x3, x4, x5, x6, x7, x8, x9, ()) = bif decide (x1 < x0) then bif decide (Int.ofNat 0 ≤ x1) && decide (x1 < Int.ofNat (List.length x2)) then
 Option.bind x2[Int.toNat x1]? fun (y : ByteArray × Int × Int × Int × ByteArray × Unit) => bif decide (IntKind.wrap IntKind.i64 (x1 + Int.ofNat 1) < Int.ofNat (List.length x2)) then bif decide (Int.ofNat 0 ≤ IntKind.wrap IntKind.i64 (x1 + Int.ofNat 1)) && decide (IntKind.wrap IntKind.i64 (x1 + Int.ofNat 1) < Int.ofNat (List.length x2)) then
 Option.bind x2[Int.toNat (IntKind.wrap IntKind.i64 (x1 + Int.ofNat 1))]? fun (y_1 : ByteArray × Int × Int × Int × ByteArray × Unit) => bif ByteArray.toList y_1.1 == ByteArray.toList y.1 then some (Sum.inl (x0, IntKind.wrap IntKind.i64 (x1 + Int.ofNat 1), x2, x3, x4, x5, x6, x7, x8, x9, ())) else Option.bind (F66 (x3, x4, x5, x6, x7, x8, y.1, ()))
 fun (r : ByteArray × ByteArray × Int × Int × Int × ByteArray × Bool × Unit) => bif decide (List.length x9 + List.length [(y.1, y.2.1, y.2.2.1, y.2.2.2.1, y.2.2.2.2.1, r.2.1, r.2.2.1, r.2.2.2.1, r.2.2.2.2.1, r.2.2.2.2.2.1, ())] ≤ 1256584717458) then some (Sum.inl (x0, IntKind.wrap IntKind.i64 (x1 + Int.ofNat 1), x2, x3, x4, x5, x6, x7, x8, x9 ++
 [(y.1, y.2.1, y.2.2.1, y.2.2.2.1, y.2.2.2.2.1, r.2.1, r.2.2.1, r.2.2.2.1, r.2.2.2.2.1, r.2.2.2.2.2.1, ())], ())) else none else none else Option.bind (F66 (x3, x4, x5, x6, x7, x8, y.1, ())) fun (r : ByteArray × ByteArray × Int × Int × Int × ByteArray × Bool × Unit) => bif decide (List.length x9 + List.length [(y.1, y.2.1, y.2.2.1, y.2.2.2.1, y.2.2.2.2.1, r.2.1, r.2.2.1, r.2.2.2.1, r.2.2.2.2.1,
 r.2.2.2.2.2.1, ())] ≤ 1256584717458) then some (Sum.inl (x0, IntKind.wrap IntKind.i64 (x1 + Int.ofNat 1), x2, x3, x4, x5, x6, x7, x8, x9 ++ [(y.1, y.2.1, y.2.2.1, y.2.2.2.1, y.2.2.2.2.1, r.2.1, r.2.2.1, r.2.2.2.1, r.2.2.2.2.1, r.2.2.2.2.2.1, ())], ())) else none else none else some (Sum.inr (x9, ())) := by kernel_rfl
theorem F45_eq (x0 : ByteArray) (x1 x2 : List (Ty.D r0)) (x3 : List (Ty.D r4)) (x4 : List (Ty.D r2)) (x5 : List (Ty.D r3)) (x6 : List (Ty.D r0)) : F45 (x0, x1, x2, x3, x4, x5, x6, ()) = Option.bind (F65 (x6, ())) fun (r : List (ByteArray × Int × Int × Int × ByteArray × Unit) × Unit) => Option.bind (F64 (r.1, ())) fun (r : List (ByteArray × Int × Int × Int × ByteArray × Unit) ×
 List (ByteArray × Int × Int × Int × ByteArray × Unit) × Unit) => Option.bind (loop B45_0 (Int.ofNat (List.length r.2.1), Int.ofNat 0, r.2.1, x0, x1, x2, x3, x4, x5, [], ())) fun (r : List (ByteArray × Int × Int × Int × ByteArray × ByteArray × Int × Int × Int × ByteArray × Unit) × Unit) => Option.bind (F67 (r.1, ())) fun (r :
 List (ByteArray × Int × Int × Int × ByteArray × ByteArray × Int × Int × Int × ByteArray × Unit) × Unit) => some (r.1, ()) := by kernel_rfl
theorem F19_eq (x0 : List (Ty.D r2)) (x1 : List (Ty.D r3)) (x2 : ByteArray) (x3 x4 : List (Ty.D r0)) (x5 : List (Ty.D r4)) : F19 (x0, x1, x2, x3, x4, x5, ()) = Option.bind (F43 (x0, x1, x2, x3, x4, x5, ())) fun (r : ByteArray × List (ByteArray × Int × Int × Int × ByteArray × Unit) × List (ByteArray × Int × Int × Int × ByteArray × Unit) ×
 List (ByteArray × ByteArray × Int × Int × Int × ByteArray × Unit) × List (ByteArray × List (Int × Int × Int × ByteArray × List (ByteArray × Int × Int × Int × ByteArray × Unit) × ByteArray × ByteArray × Unit) × Unit) × List (ByteArray × ByteArray × Bool × Bool × Int × Int × Int × ByteArray × Int × Unit) × Unit) => Option.bind (F44 (r.1, r.2.1, r.2.2.1, r.2.2.2.1, r.2.2.2.2.1, r.2.2.2.2.2.1, ()))
 fun (r_1 : List (ByteArray × Int × Int × Int × ByteArray × Unit) × Int × Unit) => bif !r_1.2.1 == Int.ofNat 0 then some ([], r_1.2.1, ()) else Option.bind (F45 (r.1, r.2.1, r.2.2.1, r.2.2.2.1, r.2.2.2.2.1, r.2.2.2.2.2.1, r_1.1, ())) fun (r : List (ByteArray × Int × Int × Int × ByteArray × ByteArray × Int × Int × Int × ByteArray × Unit) × Unit) => some (r.1, Int.ofNat 0, ()) := by kernel_rfl
theorem F13_eq  : F13 (()) = Option.bind (F19 ([((lit [97]), [(Int.ofNat 1, Int.ofNat 0, Int.ofNat 0, (lit []), [((lit [98]), Int.ofNat 1, Int.ofNat 1, Int.ofNat 0, (lit []), ())], (lit []), (lit []), ())], ()), ((lit [98]), [(Int.ofNat 1, Int.ofNat 0, Int.ofNat 0, (lit []), [], (lit []), (lit []), ()), (Int.ofNat 1, Int.ofNat 1, Int.ofNat 0, (lit []), [], (lit []), (lit []), ())], ())],
 [], (lit [109]), [], [], [], ())) fun (r : List (ByteArray × Int × Int × Int × ByteArray × ByteArray × Int × Int × Int × ByteArray × Unit) × Int × Unit) => Option.bind (F19 ([((lit [97]), [(Int.ofNat 1, Int.ofNat 0, Int.ofNat 0, (lit []), [((lit [98]), Int.ofNat 1, Int.ofNat 1, Int.ofNat 0, (lit []), ())], (lit []), (lit []), ())], ()), ((lit [98]),
 [(Int.ofNat 1, Int.ofNat 0, Int.ofNat 0, (lit []), [], (lit []), (lit []), ()), (Int.ofNat 1, Int.ofNat 1, Int.ofNat 0, (lit []), [], (lit []), (lit []), ())], ())], [], (lit [109]), [((lit [97]), Int.ofNat 1, Int.ofNat 0, Int.ofNat 0, (lit []), ()), ((lit [98]), Int.ofNat 1, Int.ofNat 0, Int.ofNat 0, (lit []), ())], [], [], ())) fun (r_1 :
 List (ByteArray × Int × Int × Int × ByteArray × ByteArray × Int × Int × Int × ByteArray × Unit) × Int × Unit) => bif !Int.ofNat (List.length r_1.1) == Int.ofNat 2 then some (false, ()) else Option.bind (F20 (r_1.1, (lit [98]), ())) fun (r_2 : ByteArray × Int × Int × Int × ByteArray × ByteArray × Int × Int × Int × ByteArray × Bool × Unit) => bif r.2.1 == Int.ofNat 0 then
 bif Int.ofNat (List.length r.1) == Int.ofNat 0 then bif r_1.2.1 == Int.ofNat 0 then bif r_2.2.2.2.2.2.2.2.2.2.2.1 then some (r_2.2.1 == Int.ofNat 1 && (r_2.2.2.1 == Int.ofNat 1 && (r_2.2.2.2.1 == Int.ofNat 0 && ByteArray.toList r_2.2.2.2.2.1 == [])), ()) else some (false, ()) else some (false, ()) else some (false, ()) else some (false, ()) := by kernel_rfl
theorem B3_0_eq (x0 x1 : List (Ty.D r6)) (x2 : Int) : B3_0 (x0, x1, x2, ()) = bif decide (x2 < Int.ofNat (List.length x0)) then bif decide (Int.ofNat 0 ≤ x2) then Option.bind x0[Int.toNat x2]? fun (y : ByteArray × Int × Int × Int × ByteArray × ByteArray × Int × Int × Int × ByteArray × Unit) => Option.bind (F20 (x1, y.1, ()))
 fun (r : ByteArray × Int × Int × Int × ByteArray × ByteArray × Int × Int × Int × ByteArray × Bool × Unit) => bif !r.2.2.2.2.2.2.2.2.2.2.1 then some (Sum.inr (Sum.inl (false, ()))) else bif decide (Int.ofNat 0 ≤ x2) then Option.bind x0[Int.toNat x2]? fun (y : ByteArray × Int × Int × Int × ByteArray × ByteArray × Int × Int × Int × ByteArray × Unit) => Option.bind
 (F21 (r.2.1, r.2.2.1, r.2.2.2.1, r.2.2.2.2.1, y.2.1, y.2.2.1, y.2.2.2.1, y.2.2.2.2.1, ())) fun (r : Int × Unit) => bif decide (r.1 < Int.ofNat 0) then some (Sum.inr (Sum.inl (false, ()))) else some (Sum.inl (x0, x1, IntKind.wrap IntKind.i64 (x2 + Int.ofNat 1), ())) else none else none else some (Sum.inr (Sum.inr ())) := by kernel_rfl
theorem F3_eq (x0 : Int) (x1 x2 : List Int) (x3 : Int) : F3 (x0, x1, x2, x3, ()) = Option.bind (F13 ()) fun (r : Bool × Unit) => bif !r.1 then some (false, ()) else Option.bind (F14 (x0, x1, true, ())) fun (r : List (ByteArray × List (Int × Int × Int × ByteArray × List (ByteArray × Int × Int × Int × ByteArray × Unit) × ByteArray × ByteArray × Unit) × Unit) ×
 List (ByteArray × ByteArray × Bool × Bool × Int × Int × Int × ByteArray × Int × Unit) × Unit) => Option.bind (F15 (r.1, r.2.1, x2, ())) fun (r_1 : ByteArray × List (ByteArray × Int × Int × Int × ByteArray × Unit) × List (ByteArray × Int × Int × Int × ByteArray × Unit) × List (ByteArray × ByteArray × Int × Int × Int × ByteArray × Unit) × Unit) =>
 Option.bind (F16 (x3, Int.ofNat (List.length r.1), ())) fun (r_2 : Int × Unit) => bif decide (Int.ofNat 0 ≤ r_2.1) then Option.bind r.1[Int.toNat r_2.1]? fun (y : ByteArray × List (Int × Int × Int × ByteArray × List (ByteArray × Int × Int × Int × ByteArray × Unit) × ByteArray × ByteArray × Unit) × Unit) => Option.bind (F16
 (IntKind.wrap IntKind.i64 (Int.tdiv x3 (Int.ofNat 7)), Int.ofNat (List.length y.2.1), ())) fun (r_3 : Int × Unit) => bif decide (Int.ofNat 0 ≤ r_3.1) then Option.bind y.2.1[Int.toNat r_3.1]? fun (y_1 : Int × Int × Int × ByteArray × List (ByteArray × Int × Int × Int × ByteArray × Unit) × ByteArray × ByteArray × Unit) => bif decide (0 + List.length r_1.2.1 ≤ 2513169434916) then bif decide
 (List.length ([] ++ r_1.2.1) + List.length [(y.1, y_1.1, y_1.2.1, y_1.2.2.1, y_1.2.2.2.1, ())] ≤ 2513169434916) then Option.bind (F17 ([] ++ r_1.2.1 ++ [(y.1, y_1.1, y_1.2.1, y_1.2.2.1, y_1.2.2.2.1, ())], ())) fun (r_4 : List (ByteArray × Int × Int × Int × ByteArray × Unit) × Unit) => Option.bind (F18 (r_1.1, r_4.1, r_1.2.2.1, r_1.2.2.2.1, ())) fun (r_5 : Bool × Unit) =>
 bif !r_5.1 then some (true, ()) else Option.bind (F19 (r.1, r.2.1, r_1.1, r_1.2.1, r_1.2.2.1, r_1.2.2.2.1, ())) fun (r_6 : List (ByteArray × Int × Int × Int × ByteArray × ByteArray × Int × Int × Int × ByteArray × Unit) × Int × Unit) => Option.bind (F19 (r.1, r.2.1, r_1.1, r_4.1, r_1.2.2.1, r_1.2.2.2.1, ())) fun (r : List (ByteArray × Int × Int ×
 Int × ByteArray × ByteArray × Int × Int × Int × ByteArray × Unit) × Int × Unit) => bif !r_6.2.1 == Int.ofNat 0 then some (true, ()) else bif !r.2.1 == Int.ofNat 0 then some (true, ()) else Option.bind (loop B3_0 (r_6.1, r.1, Int.ofNat 0, ())) fun (r : Bool × Unit ⊕ Unit) => Sum.elim (fun (p : Bool × Unit) => some (p.1, ())) (fun (p : Unit) => some (true, ())) r else none else none else none
 else none := by kernel_rfl
theorem B4_0_eq (x0 x1 x2 : Int) (x3 : List (Ty.D r2)) (x4 : List (Ty.D r3)) (x5 : ByteArray) (x6 : List (Ty.D r1)) (x7 : ByteArray) (x8 x9 : List (Ty.D r0)) : B4_0 (x0, x1, x2, x3, x4, x5, x6, x7, x8, x9, ()) = bif decide (x2 ≤ x0) then bif decide (Int.ofNat 0 ≤ x2) then Option.bind x6[Int.toNat x2]? fun (y : Int × Int × Int ×
 ByteArray × List (ByteArray × Int × Int × Int × ByteArray × Unit) × ByteArray × ByteArray × Unit) => bif decide (List.length x9 + List.length [(x5, y.1, y.2.1, y.2.2.1, y.2.2.2.1, ())] ≤ 2513169434916) then some (Sum.inl (x0, x1, IntKind.wrap IntKind.i64 (x2 + Int.ofNat 1), x3, x4, x5, x6, x7, x8, x9 ++ [(x5, y.1, y.2.1, y.2.2.1, y.2.2.2.1, ())], ())) else none else none
 else some (Sum.inr (x0, x1, x3, x4, x5, x6, x7, x8, x9, ())) := by kernel_rfl
theorem B4_1_eq (x0 x1 : Int) (x2 : List (Ty.D r6)) (x3 : Int) (x4 : ByteArray) (x5 : List (Ty.D r1)) (x6 : ByteArray) (x7 x8 : List (Ty.D r0)) : B4_1 (x0, x1, x2, x3, x4, x5, x6, x7, x8, ()) = bif decide (x3 < Int.ofNat (List.length x8)) then Option.bind (F20 (x2, x4, ())) fun (r : ByteArray × Int × Int × Int × ByteArray × ByteArray × Int × Int × Int × ByteArray × Bool × Unit) =>
 bif decide (Int.ofNat 0 ≤ x3) then Option.bind x8[Int.toNat x3]? fun (y : ByteArray × Int × Int × Int × ByteArray × Unit) => bif r.2.1 == y.2.1 && (r.2.2.1 == y.2.2.1 && (r.2.2.2.1 == y.2.2.2.1 && ByteArray.toList r.2.2.2.2.1 == ByteArray.toList y.2.2.2.2.1)) then some (Sum.inr (Sum.inl (false, ())))
 else some (Sum.inl (x0, x1, x2, IntKind.wrap IntKind.i64 (x3 + Int.ofNat 1), x4, x5, x6, x7, x8, ())) else none else some (Sum.inr (Sum.inr (x0, x1, x2, x4, x5, ()))) := by kernel_rfl
theorem F4_eq (x0 : Int) (x1 : List Int) (x2 x3 : Int) : F4 (x0, x1, x2, x3, ()) = Option.bind (F13 ()) fun (r : Bool × Unit) => bif !r.1 then some (false, ()) else Option.bind (F14 (x0, x1, true, ())) fun (r : List (ByteArray × List (Int × Int × Int × ByteArray × List (ByteArray × Int × Int × Int × ByteArray × Unit) × ByteArray × ByteArray × Unit) × Unit) ×
 List (ByteArray × ByteArray × Bool × Bool × Int × Int × Int × ByteArray × Int × Unit) × Unit) => Option.bind (F16 (x2, Int.ofNat (List.length r.1), ())) fun (r_1 : Int × Unit) => bif decide (Int.ofNat 0 ≤ r_1.1) then Option.bind r.1[Int.toNat r_1.1]? fun (y : ByteArray × List (Int × Int × Int × ByteArray × List (ByteArray × Int × Int × Int × ByteArray × Unit) × ByteArray × ByteArray × Unit) ×
 Unit) => Option.bind (F16 (IntKind.wrap IntKind.i64 (Int.tdiv x2 (Int.ofNat 7)), Int.ofNat (List.length y.2.1), ())) fun (r_2 : Int × Unit) => bif decide (Int.ofNat 0 ≤ r_2.1) then Option.bind y.2.1[Int.toNat r_2.1]? fun (y_1 : Int × Int × Int × ByteArray × List (ByteArray × Int × Int × Int × ByteArray × Unit) × ByteArray × ByteArray × Unit) =>
 Option.bind (F16 (x3, IntKind.wrap IntKind.i64 (r_2.1 + Int.ofNat 2), ())) fun (r_3 : Int × Unit) => Option.bind (loop B4_0 (r_2.1, r_3.1, bif decide (IntKind.wrap IntKind.i64 (IntKind.wrap IntKind.i64 (r_2.1 - r_3.1) + Int.ofNat 1) > Int.ofNat 0) then IntKind.wrap IntKind.i64 (IntKind.wrap IntKind.i64 (r_2.1 - r_3.1) + Int.ofNat 1) else Int.ofNat 0, r.1, r.2.1, y.1, y.2.1,
 (lit [109, 97, 105, 110]), [(y.1, y_1.1, y_1.2.1, y_1.2.2.1, y_1.2.2.2.1, ())], [], ())) fun (r : Int × Int × List (ByteArray × List (Int × Int × Int × ByteArray × List (ByteArray × Int × Int × Int × ByteArray × Unit) × ByteArray × ByteArray × Unit) × Unit) × List (ByteArray × ByteArray × Bool × Bool × Int × Int × Int × ByteArray × Int × Unit) × ByteArray × List (Int × Int × Int × ByteArray ×
 List (ByteArray × Int × Int × Int × ByteArray × Unit) × ByteArray × ByteArray × Unit) × ByteArray × List (ByteArray × Int × Int × Int × ByteArray × Unit) × List (ByteArray × Int × Int × Int × ByteArray × Unit) × Unit) => Option.bind (F19 (r.2.2.1, r.2.2.2.1, r.2.2.2.2.2.2.1, r.2.2.2.2.2.2.2.1, r.2.2.2.2.2.2.2.2.1, [], ())) fun (r_4 : List (ByteArray ×
 Int × Int × Int × ByteArray × ByteArray × Int × Int × Int × ByteArray × Unit) × Int × Unit) => Option.bind (F22 (r.2.2.1, r.2.2.2.1, r.2.2.2.2.2.2.1, r.2.2.2.2.2.2.2.1, r.2.2.2.2.2.2.2.2.1, [], ())) fun (r_5 : List (ByteArray × Int × Int × Int × ByteArray × ByteArray × Int × Int × Int × ByteArray × Unit) × Int × Unit) => bif !r_4.2.1 == r_5.2.1 then some (false, ()) else
 Option.bind (F23 (r_4.1, r_5.1, ())) fun (r_6 : Bool × Unit) => bif !r_6.1 then some (false, ()) else bif decide (r.2.1 > r.1) then some (r_4.2.1 == Int.ofNat 13, ()) else bif r_4.2.1 == Int.ofNat 13 then some (true, ()) else Option.bind (loop B4_1 (r.1, r.2.1, r_4.1, Int.ofNat 0, r.2.2.2.2.1, r.2.2.2.2.2.1, r.2.2.2.2.2.2.1, r.2.2.2.2.2.2.2.1, r.2.2.2.2.2.2.2.2.1, ())) fun (r : Bool × Unit ⊕
 Int × Int × List (ByteArray × Int × Int × Int × ByteArray × ByteArray × Int × Int × Int × ByteArray × Unit) × ByteArray × List (Int × Int × Int × ByteArray × List (ByteArray × Int × Int × Int × ByteArray × Unit) × ByteArray × ByteArray × Unit) × Unit) => Sum.elim (fun (p : Bool × Unit) => some (p.1, ())) (fun (p : Int × Int × List (ByteArray × Int × Int × Int × ByteArray ×
 ByteArray × Int × Int × Int × ByteArray × Unit) × ByteArray × List (Int × Int × Int × ByteArray × List (ByteArray × Int × Int × Int × ByteArray × Unit) × ByteArray × ByteArray × Unit) × Unit) => Option.bind (F20 (p.2.2.1, p.2.2.2.1, ())) fun (r : ByteArray × Int × Int × Int × ByteArray × ByteArray × Int × Int × Int × ByteArray × Bool × Unit) => bif r.2.2.2.2.2.2.2.2.2.2.1 then
 bif decide (Int.ofNat 0 ≤ IntKind.wrap IntKind.i64 (p.1 - p.2.1)) then Option.bind p.2.2.2.2.1[Int.toNat (IntKind.wrap IntKind.i64 (p.1 - p.2.1))]? fun (y : Int × Int × Int × ByteArray × List (ByteArray × Int × Int × Int × ByteArray × Unit) × ByteArray × ByteArray × Unit) => Option.bind (F21 (r.2.1, r.2.2.1, r.2.2.2.1, r.2.2.2.2.1, y.1, y.2.1, y.2.2.1, y.2.2.2.1, ())) fun (r : Int × Unit) =>
 some (decide (r.1 ≥ Int.ofNat 0), ()) else none else some (false, ())) r else none else none := by kernel_rfl
theorem F5_eq (x0 : Int) (x1 x2 : List Int) (x3 : Int) : F5 (x0, x1, x2, x3, ()) = Option.bind (F13 ()) fun (r : Bool × Unit) => bif !r.1 then some (false, ()) else Option.bind (F14 (x0, x1, true, ())) fun (r : List (ByteArray × List (Int × Int × Int × ByteArray × List (ByteArray × Int × Int × Int × ByteArray × Unit) × ByteArray × ByteArray × Unit) × Unit) ×
 List (ByteArray × ByteArray × Bool × Bool × Int × Int × Int × ByteArray × Int × Unit) × Unit) => Option.bind (F15 (r.1, r.2.1, x2, ())) fun (r_1 : ByteArray × List (ByteArray × Int × Int × Int × ByteArray × Unit) × List (ByteArray × Int × Int × Int × ByteArray × Unit) × List (ByteArray × ByteArray × Int × Int × Int × ByteArray × Unit) × Unit) =>
 Option.bind (F16 (x3, Int.ofNat (List.length r.1), ())) fun (r_2 : Int × Unit) => bif decide (Int.ofNat 0 ≤ r_2.1) then Option.bind r.1[Int.toNat r_2.1]? fun (y : ByteArray × List (Int × Int × Int × ByteArray × List (ByteArray × Int × Int × Int × ByteArray × Unit) × ByteArray × ByteArray × Unit) × Unit) => Option.bind (F24 (y.1, r_1.2.1, r_1.2.2.1, r_1.2.2.2.1, ())) fun (r_3 : ByteArray ×
 List (ByteArray × Int × Int × Int × ByteArray × Unit) × List (ByteArray × Int × Int × Int × ByteArray × Unit) × List (ByteArray × ByteArray × Int × Int × Int × ByteArray × Unit) × Unit) => Option.bind (F19 (r.1, r.2.1, r_3.1, r_3.2.1, r_3.2.2.1, r_3.2.2.2.1, ())) fun (r_4 : List (ByteArray × Int × Int × Int × ByteArray × ByteArray × Int × Int × Int × ByteArray × Unit) × Int × Unit) =>
 Option.bind (F22 (r.1, r.2.1, r_3.1, r_3.2.1, r_3.2.2.1, r_3.2.2.2.1, ())) fun (r : List (ByteArray × Int × Int × Int × ByteArray × ByteArray × Int × Int × Int × ByteArray × Unit) × Int × Unit) => Option.bind (F20 (r_4.1, r_3.1, ())) fun (r_5 : ByteArray × Int × Int × Int × ByteArray × ByteArray × Int × Int × Int × ByteArray × Bool × Unit) => bif r_4.2.1 == r.2.1 then
 Option.bind (F23 (r_4.1, r.1, ())) fun (r : Bool × Unit) => bif r.1 then some (!r_5.2.2.2.2.2.2.2.2.2.2.1, ()) else some (false, ()) else some (false, ()) else none := by kernel_rfl
theorem B6_0_eq (x0 : List (Ty.D r6)) (x1 : Int) (x2 : List (Ty.D r2)) (x3 : List (Ty.D r3)) (x4 : ByteArray) (x5 : List (Ty.D r0)) : B6_0 (x0, x1, x2, x3, x4, x5, ()) = bif decide (x1 < Int.ofNat (List.length x0)) then bif decide (Int.ofNat 0 ≤ x1) then Option.bind x0[Int.toNat x1]? fun (y : ByteArray × Int × Int × Int × ByteArray × ByteArray × Int × Int × Int × ByteArray × Unit) =>
 bif decide (Int.ofNat 0 ≤ x1) then Option.bind x0[Int.toNat x1]? fun (y_1 : ByteArray × Int × Int × Int × ByteArray × ByteArray × Int × Int × Int × ByteArray × Unit) => bif decide (List.length x5 + List.length [(y.1, y_1.2.1, y_1.2.2.1, y_1.2.2.2.1, y_1.2.2.2.2.1, ())] ≤ 2513169434916) then some (Sum.inl (x0, IntKind.wrap IntKind.i64 (x1 + Int.ofNat 1), x2, x3, x4,
 x5 ++ [(y.1, y_1.2.1, y_1.2.2.1, y_1.2.2.2.1, y_1.2.2.2.2.1, ())], ())) else none else none else none else some (Sum.inr (x0, x2, x3, x4, x5, ())) := by kernel_rfl
theorem F6_eq (x0 : Int) (x1 x2 : List Int) : F6 (x0, x1, x2, ()) = Option.bind (F13 ()) fun (r : Bool × Unit) => bif !r.1 then some (false, ()) else Option.bind (F14 (x0, x1, true, ())) fun (r : List (ByteArray × List (Int × Int × Int × ByteArray × List (ByteArray × Int × Int × Int × ByteArray × Unit) × ByteArray × ByteArray × Unit) × Unit) ×
 List (ByteArray × ByteArray × Bool × Bool × Int × Int × Int × ByteArray × Int × Unit) × Unit) => Option.bind (F15 (r.1, r.2.1, x2, ())) fun (r_1 : ByteArray × List (ByteArray × Int × Int × Int × ByteArray × Unit) × List (ByteArray × Int × Int × Int × ByteArray × Unit) × List (ByteArray × ByteArray × Int × Int × Int × ByteArray × Unit) × Unit) =>
 Option.bind (F19 (r.1, r.2.1, r_1.1, r_1.2.1, [], [], ())) fun (r_2 : List (ByteArray × Int × Int × Int × ByteArray × ByteArray × Int × Int × Int × ByteArray × Unit) × Int × Unit) => bif !r_2.2.1 == Int.ofNat 0 then some (r_2.2.1 == Int.ofNat 9, ()) else Option.bind (loop B6_0 (r_2.1, Int.ofNat 0, r.1, r.2.1, r_1.1, [], ())) fun (r :
 List (ByteArray × Int × Int × Int × ByteArray × ByteArray × Int × Int × Int × ByteArray × Unit) × List (ByteArray × List (Int × Int × Int × ByteArray × List (ByteArray × Int × Int × Int × ByteArray × Unit) × ByteArray × ByteArray × Unit) × Unit) × List (ByteArray × ByteArray × Bool × Bool × Int × Int × Int × ByteArray × Int × Unit) ×
 ByteArray × List (ByteArray × Int × Int × Int × ByteArray × Unit) × Unit) => Option.bind (F19 (r.2.1, r.2.2.1, r.2.2.2.1, r.2.2.2.2.1, [], [], ())) fun (r_3 : List (ByteArray × Int × Int × Int × ByteArray × ByteArray × Int × Int × Int × ByteArray × Unit) × Int × Unit) => bif r_3.2.1 == Int.ofNat 0 then Option.bind (F23 (r.1, r_3.1, ())) fun (r : Bool × Unit) => some (r.1, ())
 else some (false, ()) := by kernel_rfl
theorem B7_0_eq (x0 : ByteArray) (x1 : List (Ty.D r6)) (x2 : Int) : B7_0 (x0, x1, x2, ()) = bif decide (x2 < Int.ofNat (List.length x1)) then bif decide (Int.ofNat 0 ≤ x2) then Option.bind x1[Int.toNat x2]? fun (y : ByteArray × Int × Int × Int × ByteArray × ByteArray × Int × Int × Int × ByteArray × Unit) => Option.bind (F20 (x1, y.1, ()))
 fun (r : ByteArray × Int × Int × Int × ByteArray × ByteArray × Int × Int × Int × ByteArray × Bool × Unit) => bif !r.2.2.2.2.2.2.2.2.2.2.1 then some (Sum.inr (Sum.inl (false, ()))) else bif decide (Int.ofNat 0 ≤ x2) then Option.bind x1[Int.toNat x2]? fun (y : ByteArray × Int × Int × Int × ByteArray × ByteArray × Int × Int × Int × ByteArray × Unit) => bif
 !(ByteArray.toList r.1 == ByteArray.toList y.1 && (r.2.1 == y.2.1 && (r.2.2.1 == y.2.2.1 && (r.2.2.2.1 == y.2.2.2.1 && ByteArray.toList r.2.2.2.2.1 == ByteArray.toList y.2.2.2.2.1)) && (ByteArray.toList r.2.2.2.2.2.1 == ByteArray.toList y.2.2.2.2.2.1 && (r.2.2.2.2.2.2.1 == y.2.2.2.2.2.2.1 && (r.2.2.2.2.2.2.2.1 == y.2.2.2.2.2.2.2.1 && (r.2.2.2.2.2.2.2.2.1 == y.2.2.2.2.2.2.2.2.1 &&
 ByteArray.toList r.2.2.2.2.2.2.2.2.2.1 == ByteArray.toList y.2.2.2.2.2.2.2.2.2.1)))))) then some (Sum.inr (Sum.inl (false, ()))) else some (Sum.inl (x0, x1, IntKind.wrap IntKind.i64 (x2 + Int.ofNat 1), ())) else none else none else some (Sum.inr (Sum.inr (x0, x1, ()))) := by kernel_rfl
theorem F7_eq (x0 : Int) (x1 x2 : List Int) (x3 : ByteArray) : F7 (x0, x1, x2, x3, ()) = Option.bind (F13 ()) fun (r : Bool × Unit) => bif !r.1 then some (false, ()) else Option.bind (F14 (x0, x1, true, ())) fun (r : List (ByteArray × List (Int × Int × Int × ByteArray × List (ByteArray × Int × Int × Int × ByteArray × Unit) × ByteArray × ByteArray × Unit) × Unit) ×
 List (ByteArray × ByteArray × Bool × Bool × Int × Int × Int × ByteArray × Int × Unit) × Unit) => Option.bind (F15 (r.1, r.2.1, x2, ())) fun (r_1 : ByteArray × List (ByteArray × Int × Int × Int × ByteArray × Unit) × List (ByteArray × Int × Int × Int × ByteArray × Unit) × List (ByteArray × ByteArray × Int × Int × Int × ByteArray × Unit) × Unit) =>
 Option.bind (F19 (r.1, r.2.1, r_1.1, r_1.2.1, r_1.2.2.1, r_1.2.2.2.1, ())) fun (r : List (ByteArray × Int × Int × Int × ByteArray × ByteArray × Int × Int × Int × ByteArray × Unit) × Int × Unit) => Option.bind (loop B7_0 (x3, r.1, Int.ofNat 0, ())) fun (r : Bool × Unit ⊕ ByteArray × List (ByteArray × Int × Int × Int × ByteArray × ByteArray × Int × Int × Int × ByteArray × Unit) × Unit) =>
 Sum.elim (fun (p : Bool × Unit) => some (p.1, ())) (fun (p : ByteArray × List (ByteArray × Int × Int × Int × ByteArray × ByteArray × Int × Int × Int × ByteArray × Unit) × Unit) => Option.bind (F20 (p.2.1, p.1, ())) fun (r : ByteArray × Int × Int × Int × ByteArray × ByteArray × Int × Int × Int × ByteArray × Bool × Unit) => Option.bind (F25 (p.2.1, p.1, ())) fun (r_2 : ByteArray ×
 Int × Int × Int × ByteArray × ByteArray × Int × Int × Int × ByteArray × Bool × Unit) => bif fitsS (lit [63]) p.1 then Option.bind (F20 (p.2.1, (lit [63]) ++ p.1, ())) fun (r_3 : ByteArray × Int × Int × Int × ByteArray × ByteArray × Int × Int × Int × ByteArray × Bool × Unit) => bif ByteArray.toList r.1 == ByteArray.toList r_2.1 && (r.2.1 == r_2.2.1 && (r.2.2.1 == r_2.2.2.1 &&
 (r.2.2.2.1 == r_2.2.2.2.1 && ByteArray.toList r.2.2.2.2.1 == ByteArray.toList r_2.2.2.2.2.1)) && (ByteArray.toList r.2.2.2.2.2.1 == ByteArray.toList r_2.2.2.2.2.2.1 && (r.2.2.2.2.2.2.1 == r_2.2.2.2.2.2.2.1 && (r.2.2.2.2.2.2.2.1 == r_2.2.2.2.2.2.2.2.1 && (r.2.2.2.2.2.2.2.2.1 == r_2.2.2.2.2.2.2.2.2.1 && ByteArray.toList r.2.2.2.2.2.2.2.2.2.1 == ByteArray.toList r_2.2.2.2.2.2.2.2.2.2.1))))) then
 bif r.2.2.2.2.2.2.2.2.2.2.1 == r_2.2.2.2.2.2.2.2.2.2.2.1 then bif !r_3.2.2.2.2.2.2.2.2.2.2.1 then some (ByteArray.toList r_3.1 == [] && (r_3.2.1 == Int.ofNat 0 && (r_3.2.2.1 == Int.ofNat 0 && (r_3.2.2.2.1 == Int.ofNat 0 && ByteArray.toList r_3.2.2.2.2.1 == [])) && (ByteArray.toList r_3.2.2.2.2.2.1 == [] && (r_3.2.2.2.2.2.2.1 == Int.ofNat 0 && (r_3.2.2.2.2.2.2.2.1 == Int.ofNat 0 &&
 (r_3.2.2.2.2.2.2.2.2.1 == Int.ofNat 0 && ByteArray.toList r_3.2.2.2.2.2.2.2.2.2.1 == []))))), ()) else some (false, ()) else some (false, ()) else some (false, ()) else none) r := by kernel_rfl
theorem F26_eq (x0 : List (Ty.D r2)) (x1 : List (Ty.D r3)) (x2 : ByteArray) (x3 x4 : List (Ty.D r0)) (x5 : List (Ty.D r4)) (x6 : ByteArray) (x7 x8 x9 : Int) (x10 : ByteArray) : F26 (x0, x1, x2, x3, x4, x5, x6, x7, x8, x9, x10, ()) = Option.bind (F43 (x0, x1, x2, x3, x4, x5, ())) fun (r : ByteArray × List (ByteArray × Int × Int × Int × ByteArray × Unit) ×
 List (ByteArray × Int × Int × Int × ByteArray × Unit) × List (ByteArray × ByteArray × Int × Int × Int × ByteArray × Unit) × List (ByteArray × List (Int × Int × Int × ByteArray × List (ByteArray × Int × Int × Int × ByteArray × Unit) × ByteArray × ByteArray × Unit) × Unit) × List (ByteArray × ByteArray × Bool × Bool × Int × Int × Int × ByteArray × Int × Unit) × Unit) =>
 Option.bind (F52 (r.1, r.2.1, r.2.2.1, r.2.2.2.1, r.2.2.2.2.1, r.2.2.2.2.2.1, x6, x7, x8, x9, x10, ())) fun (r : List (ByteArray × Int × Int × Int × ByteArray × Unit) × Int × Unit) => some (r.1, r.2.1, ()) := by kernel_rfl
theorem B8_0_eq (x0 : List (Ty.D r6)) (x1 : Int) (x2 : List (Ty.D r2)) (x3 : List (Ty.D r3)) (x4 : ByteArray) (x5 : List (Ty.D r0)) : B8_0 (x0, x1, x2, x3, x4, x5, ()) = bif decide (x1 < Int.ofNat (List.length x5)) then bif decide (Int.ofNat 0 ≤ x1) then Option.bind x5[Int.toNat x1]? fun (y : ByteArray × Int × Int × Int × ByteArray × Unit) => Option.bind (F20 (x0, y.1, ()))
 fun (r : ByteArray × Int × Int × Int × ByteArray × ByteArray × Int × Int × Int × ByteArray × Bool × Unit) => bif !r.2.2.2.2.2.2.2.2.2.2.1 then some (Sum.inr (Sum.inl (false, ()))) else bif decide (Int.ofNat 0 ≤ x1) then Option.bind x5[Int.toNat x1]? fun (y : ByteArray × Int × Int × Int × ByteArray × Unit) => Option.bind
 (F21 (r.2.1, r.2.2.1, r.2.2.2.1, r.2.2.2.2.1, y.2.1, y.2.2.1, y.2.2.2.1, y.2.2.2.2.1, ())) fun (r : Int × Unit) => bif decide (r.1 < Int.ofNat 0) then some (Sum.inr (Sum.inl (false, ()))) else some (Sum.inl (x0, IntKind.wrap IntKind.i64 (x1 + Int.ofNat 1), x2, x3, x4, x5, ())) else none else none else some (Sum.inr (Sum.inr (x0, x2, x3, x4, x5, ()))) := by kernel_rfl
theorem B8_1_eq (x0 : List (Ty.D r6)) (x1 : Int) (x2 : List (Ty.D r0)) (x3 : Int) (x4 : List (Ty.D r6)) (x5 : Int) (x6 : ByteArray) (x7 : Bool) (x8 : List (Ty.D r2)) (x9 : List (Ty.D r3)) (x10 : ByteArray) (x11 : List (Ty.D r0)) : B8_1 (x0, x1, x2, x3, x4, x5, x6, x7, x8, x9, x10, x11, ()) = bif decide (x3 < Int.ofNat (List.length x2)) then bif decide (Int.ofNat 0 ≤ x3) then
 Option.bind x2[Int.toNat x3]? fun (y : ByteArray × Int × Int × Int × ByteArray × Unit) => Option.bind (F20 (x0, y.1, ())) fun (r : ByteArray × Int × Int × Int × ByteArray × ByteArray × Int × Int × Int × ByteArray × Bool × Unit) => bif !r.2.2.2.2.2.2.2.2.2.2.1 then some (Sum.inr (Sum.inl (false, ()))) else bif decide (Int.ofNat 0 ≤ x3) then
 Option.bind x2[Int.toNat x3]? fun (y : ByteArray × Int × Int × Int × ByteArray × Unit) => Option.bind (F21 (r.2.1, r.2.2.1, r.2.2.2.1, r.2.2.2.2.1, y.2.1, y.2.2.1, y.2.2.2.1, y.2.2.2.2.1, ())) fun (r : Int × Unit) => bif decide (r.1 < Int.ofNat 0) then some (Sum.inr (Sum.inl (false, ()))) else some (Sum.inl
 (x0, x1, x2, IntKind.wrap IntKind.i64 (x3 + Int.ofNat 1), x4, x5, x6, x7, x8, x9, x10, x11, ())) else none else none else some (Sum.inr (Sum.inr (x0, x1, x4, x5, x6, x7, x8, x9, x10, x11, ()))) := by kernel_rfl
theorem B8_2_eq (x0 : List (Ty.D r6)) (x1 : Int) (x2 : List (Ty.D r2)) (x3 : List (Ty.D r3)) (x4 : ByteArray) (x5 : List (Ty.D r0)) : B8_2 (x0, x1, x2, x3, x4, x5, ()) = bif decide (x1 < Int.ofNat (List.length x0)) then bif decide (x1 > Int.ofNat 0) then bif decide (Int.ofNat 0 ≤ IntKind.wrap IntKind.i64 (x1 - Int.ofNat 1)) then
 Option.bind x0[Int.toNat (IntKind.wrap IntKind.i64 (x1 - Int.ofNat 1))]? fun (y : ByteArray × Int × Int × Int × ByteArray × ByteArray × Int × Int × Int × ByteArray × Unit) => bif decide (Int.ofNat 0 ≤ x1) then Option.bind x0[Int.toNat x1]? fun (y_1 : ByteArray × Int × Int × Int × ByteArray × ByteArray × Int × Int × Int × ByteArray × Unit) =>
 bif !Op.bytesLess (ByteArray.toList y.1) (ByteArray.toList y_1.1) then some (Sum.inr (Sum.inl (false, ()))) else bif decide (Int.ofNat 0 ≤ x1) then Option.bind x0[Int.toNat x1]? fun (y : ByteArray × Int × Int × Int × ByteArray × ByteArray × Int × Int × Int × ByteArray × Unit) => bif !ByteArray.toList y.2.2.2.2.2.1 == [] then some (Sum.inr (Sum.inl (false, ()))) else
 bif decide (Int.ofNat 0 ≤ x1) then Option.bind x0[Int.toNat x1]? fun (y_2 : ByteArray × Int × Int × Int × ByteArray × ByteArray × Int × Int × Int × ByteArray × Unit) => bif decide (Int.ofNat 0 ≤ x1) then Option.bind x0[Int.toNat x1]? fun (y_3 : ByteArray × Int × Int × Int × ByteArray × ByteArray × Int × Int × Int × ByteArray × Unit) => Option.bind (F26
 (x2, x3, x4, x5, [], [], y_2.1, y_3.2.1, y_3.2.2.1, y_3.2.2.2.1, y_3.2.2.2.2.1, ())) fun (r : List (ByteArray × Int × Int × Int × ByteArray × Unit) × Int × Unit) => bif !r.2.1 == Int.ofNat 0 then some (Sum.inr (Sum.inl (false, ()))) else Option.bind (loop B8_1 (x0, x1, r.1, Int.ofNat 0, x0, x1, y.2.2.2.2.2.1, !ByteArray.toList y.2.2.2.2.2.1 == [], x2, x3, x4, x5, ())) fun (r : Bool × Unit ⊕ List
 (ByteArray × Int × Int × Int × ByteArray × ByteArray × Int × Int × Int × ByteArray × Unit) × Int × List (ByteArray × Int × Int × Int × ByteArray × ByteArray × Int × Int × Int × ByteArray × Unit) × Int × ByteArray × Bool × List (ByteArray × List (Int × Int × Int × ByteArray × List (ByteArray × Int × Int × Int × ByteArray × Unit) × ByteArray × ByteArray × Unit) × Unit) × List (ByteArray ×
 ByteArray × Bool × Bool × Int × Int × Int × ByteArray × Int × Unit) × ByteArray × List (ByteArray × Int × Int × Int × ByteArray × Unit) × Unit) => Sum.elim (fun (p : Bool × Unit) => some (Sum.inr (Sum.inl (p.1, ())))) (fun (p : List (ByteArray × Int × Int × Int × ByteArray × ByteArray × Int × Int × Int × ByteArray × Unit) × Int × List (ByteArray × Int × Int × Int × ByteArray ×
 ByteArray × Int × Int × Int × ByteArray × Unit) × Int × ByteArray × Bool × List (ByteArray × List (Int × Int × Int × ByteArray × List (ByteArray × Int × Int × Int × ByteArray × Unit) × ByteArray × ByteArray × Unit) × Unit) × List (ByteArray × ByteArray × Bool × Bool × Int × Int × Int × ByteArray × Int × Unit) × ByteArray × List (ByteArray × Int × Int × Int × ByteArray × Unit) × Unit) => some
 (Sum.inl (p.1, IntKind.wrap IntKind.i64 (p.2.1 + Int.ofNat 1), p.2.2.2.2.2.2.1, p.2.2.2.2.2.2.2.1, p.2.2.2.2.2.2.2.2.1, p.2.2.2.2.2.2.2.2.2.1, ()))) r else none else none else none else none else none else bif decide (Int.ofNat 0 ≤ x1) then Option.bind x0[Int.toNat x1]? fun (y : ByteArray × Int × Int × Int × ByteArray × ByteArray × Int × Int × Int × ByteArray × Unit) =>
 bif !ByteArray.toList y.2.2.2.2.2.1 == [] then some (Sum.inr (Sum.inl (false, ()))) else bif decide (Int.ofNat 0 ≤ x1) then Option.bind x0[Int.toNat x1]? fun (y_1 : ByteArray × Int × Int × Int × ByteArray × ByteArray × Int × Int × Int × ByteArray × Unit) => bif decide (Int.ofNat 0 ≤ x1) then Option.bind x0[Int.toNat x1]? fun (y_2 :
 ByteArray × Int × Int × Int × ByteArray × ByteArray × Int × Int × Int × ByteArray × Unit) => Option.bind (F26 (x2, x3, x4, x5, [], [], y_1.1, y_2.2.1, y_2.2.2.1, y_2.2.2.2.1, y_2.2.2.2.2.1, ())) fun (r : List (ByteArray × Int × Int × Int × ByteArray × Unit) × Int × Unit) => bif !r.2.1 == Int.ofNat 0 then some (Sum.inr (Sum.inl (false, ()))) else Option.bind (loop B8_1
 (x0, x1, r.1, Int.ofNat 0, x0, x1, y.2.2.2.2.2.1, !ByteArray.toList y.2.2.2.2.2.1 == [], x2, x3, x4, x5, ())) fun (r : Bool × Unit ⊕ List (ByteArray × Int × Int × Int × ByteArray × ByteArray × Int × Int × Int × ByteArray × Unit) × Int × List (ByteArray × Int × Int × Int × ByteArray × ByteArray × Int × Int × Int × ByteArray × Unit) × Int × ByteArray × Bool × List (ByteArray × List (Int × Int ×
 Int × ByteArray × List (ByteArray × Int × Int × Int × ByteArray × Unit) × ByteArray × ByteArray × Unit) × Unit) × List (ByteArray × ByteArray × Bool × Bool × Int × Int × Int × ByteArray × Int × Unit) × ByteArray × List (ByteArray × Int × Int × Int × ByteArray × Unit) × Unit) => Sum.elim (fun (p : Bool × Unit) => some (Sum.inr (Sum.inl (p.1, ())))) (fun (p : List (ByteArray ×
 Int × Int × Int × ByteArray × ByteArray × Int × Int × Int × ByteArray × Unit) × Int × List (ByteArray × Int × Int × Int × ByteArray × ByteArray × Int × Int × Int × ByteArray × Unit) × Int × ByteArray × Bool × List (ByteArray × List (Int × Int × Int × ByteArray × List (ByteArray × Int × Int × Int × ByteArray × Unit) × ByteArray × ByteArray × Unit) × Unit) × List (ByteArray × ByteArray ×
 Bool × Bool × Int × Int × Int × ByteArray × Int × Unit) × ByteArray × List (ByteArray × Int × Int × Int × ByteArray × Unit) × Unit) => some (Sum.inl (p.1, IntKind.wrap IntKind.i64 (p.2.1 + Int.ofNat 1), p.2.2.2.2.2.2.1, p.2.2.2.2.2.2.2.1, p.2.2.2.2.2.2.2.2.1, p.2.2.2.2.2.2.2.2.2.1, ()))) r else none else none else none else some (Sum.inr (Sum.inr ())) := by kernel_rfl
theorem F8_eq (x0 : Int) (x1 x2 : List Int) : F8 (x0, x1, x2, ()) = Option.bind (F13 ()) fun (r : Bool × Unit) => bif !r.1 then some (false, ()) else Option.bind (F14 (x0, x1, true, ())) fun (r : List (ByteArray × List (Int × Int × Int × ByteArray × List (ByteArray × Int × Int × Int × ByteArray × Unit) × ByteArray × ByteArray × Unit) × Unit) ×
 List (ByteArray × ByteArray × Bool × Bool × Int × Int × Int × ByteArray × Int × Unit) × Unit) => Option.bind (F15 (r.1, r.2.1, x2, ())) fun (r_1 : ByteArray × List (ByteArray × Int × Int × Int × ByteArray × Unit) × List (ByteArray × Int × Int × Int × ByteArray × Unit) × List (ByteArray × ByteArray × Int × Int × Int × ByteArray × Unit) × Unit) =>
 Option.bind (F19 (r.1, r.2.1, r_1.1, r_1.2.1, [], [], ())) fun (r_2 : List (ByteArray × Int × Int × Int × ByteArray × ByteArray × Int × Int × Int × ByteArray × Unit) × Int × Unit) => bif !r_2.2.1 == Int.ofNat 0 then some (r_2.2.1 == Int.ofNat 9, ()) else Option.bind (loop B8_0 (r_2.1, Int.ofNat 0, r.1, r.2.1, r_1.1, r_1.2.1, ())) fun (r : Bool × Unit ⊕
 List (ByteArray × Int × Int × Int × ByteArray × ByteArray × Int × Int × Int × ByteArray × Unit) × List (ByteArray × List (Int × Int × Int × ByteArray × List (ByteArray × Int × Int × Int × ByteArray × Unit) × ByteArray × ByteArray × Unit) × Unit) × List (ByteArray × ByteArray × Bool × Bool × Int × Int × Int × ByteArray × Int × Unit) ×
 ByteArray × List (ByteArray × Int × Int × Int × ByteArray × Unit) × Unit) => Sum.elim (fun (p : Bool × Unit) => some (p.1, ())) (fun (p : List (ByteArray × Int × Int × Int × ByteArray × ByteArray × Int × Int × Int × ByteArray × Unit) × List (ByteArray × List (Int × Int × Int × ByteArray × List (ByteArray × Int × Int × Int × ByteArray × Unit) × ByteArray × ByteArray × Unit) × Unit) ×
 List (ByteArray × ByteArray × Bool × Bool × Int × Int × Int × ByteArray × Int × Unit) × ByteArray × List (ByteArray × Int × Int × Int × ByteArray × Unit) × Unit) => Option.bind (loop B8_2 (p.1, Int.ofNat 0, p.2.1, p.2.2.1, p.2.2.2.1, p.2.2.2.2.1, ())) fun (r : Bool × Unit ⊕ Unit) => Sum.elim (fun (p : Bool × Unit) => some (p.1, ())) (fun (p : Unit) => some (true, ())) r) r := by kernel_rfl
theorem B29_0_eq (x0 x1 : Int) (x2 : ByteArray) (x3 x4 : List (Ty.D r0)) (x5 : List (Ty.D r4)) (x6 : List (Ty.D r2)) (x7 : List (Ty.D r3)) (x8 : ByteArray) (x9 x10 x11 : Int) (x12 : ByteArray) (x13 : List (List (Ty.D r0))) (x14 : List (Ty.D r0 × Bool)) (x15 : List (Ty.D r0)) : B29_0 (x0, x1, x2, x3, x4, x5, x6, x7, x8, x9, x10, x11, x12, x13, x14, x15, ()) = bif decide (x1 < x0) then
 bif decide (Int.ofNat 0 ≤ x1) && decide (x1 < Int.ofNat (List.length x15)) then Option.bind x15[Int.toNat x1]? fun (y : ByteArray × Int × Int × Int × ByteArray × Unit) => Option.bind (mget (Cx.T cx29_0) 43 (rowTy.onto Ty.str (rowTy.onto (rowTy.onto (Ty.int IntKind.i64) (rowTy.onto (Ty.int IntKind.i64) (rowTy.onto (Ty.int IntKind.i64) (rowTy.onto Ty.str Ty.unit)))) Ty.unit))
 (y.1, y.2.1, y.2.2.1, y.2.2.2.1, y.2.2.2.2.1, ()) x14) fun (b : Bool) => bif !b then Option.bind (mput (Cx.T cx29_0) 43 (rowTy.onto Ty.str (rowTy.onto (rowTy.onto (Ty.int IntKind.i64) (rowTy.onto (Ty.int IntKind.i64) (rowTy.onto (Ty.int IntKind.i64) (rowTy.onto Ty.str Ty.unit)))) Ty.unit)) (y.1, y.2.1, y.2.2.1, y.2.2.2.1, y.2.2.2.2.1, ()) true x14)
 fun (es' : List ((ByteArray × Int × Int × Int × ByteArray × Unit) × Bool)) => bif decide (List.length x13 + List.length [[(y.1, y.2.1, y.2.2.1, y.2.2.2.1, y.2.2.2.2.1, ())]] ≤ 5864062014805) then some (Sum.inl (x0, IntKind.wrap IntKind.i64 (x1 + Int.ofNat 1), x2, x3, x4, x5, x6, x7, x8, x9, x10, x11, x12, x13 ++ [[(y.1, y.2.1, y.2.2.1, y.2.2.2.1, y.2.2.2.2.1, ())]], es', x15, ())) else none else
 some (Sum.inl (x0, IntKind.wrap IntKind.i64 (x1 + Int.ofNat 1), x2, x3, x4, x5, x6, x7, x8, x9, x10, x11, x12, x13, x14, x15, ())) else none else some (Sum.inr (x2, x3, x4, x5, x6, x7, x8, x9, x10, x11, x12, x13, x14, ())) := by kernel_rfl
theorem B29_1_eq (x0 : Int) (x1 : List (Ty.D r0)) (x2 x3 : Int) (x4 : ByteArray) (x5 x6 : List (Ty.D r0)) (x7 : List (Ty.D r4)) (x8 : List (Ty.D r2)) (x9 : List (Ty.D r3)) (x10 : ByteArray) (x11 x12 x13 : Int) (x14 : ByteArray) (x15 : List (List (Ty.D r0))) (x16 : List (Ty.D r0 × Bool)) : B29_1 (x0, x1, x2, x3, x4, x5, x6, x7, x8, x9, x10, x11, x12, x13, x14, x15, x16, ()) =
 bif decide (x3 < x2) then bif decide (Int.ofNat 0 ≤ x3) then Option.bind x1[Int.toNat x3]? fun (y : ByteArray × Int × Int × Int × ByteArray × Unit) => Option.bind (mget (Cx.T cx29_1) 43 (rowTy.onto Ty.str (rowTy.onto (rowTy.onto (Ty.int IntKind.i64) (rowTy.onto (Ty.int IntKind.i64) (rowTy.onto (Ty.int IntKind.i64) (rowTy.onto Ty.str Ty.unit)))) Ty.unit))
 (y.1, y.2.1, y.2.2.1, y.2.2.2.1, y.2.2.2.2.1, ()) x16) fun (b : Bool) => bif !b then Option.bind (mput (Cx.T cx29_1) 43 (rowTy.onto Ty.str (rowTy.onto (rowTy.onto (Ty.int IntKind.i64) (rowTy.onto (Ty.int IntKind.i64) (rowTy.onto (Ty.int IntKind.i64) (rowTy.onto Ty.str Ty.unit)))) Ty.unit)) (y.1, y.2.1, y.2.2.1, y.2.2.2.1, y.2.2.2.2.1, ()) true x16)
 fun (es' : List ((ByteArray × Int × Int × Int × ByteArray × Unit) × Bool)) => bif decide (Int.ofNat 0 ≤ x0) then Option.bind x15[Int.toNat x0]? fun (y_1 : List (ByteArray × Int × Int × Int × ByteArray × Unit)) => Option.bind (F56 (y_1, ())) fun (r : List (ByteArray × Int × Int × Int × ByteArray × Unit) × Unit) => bif decide
 (List.length r.1 + List.length [(y.1, y.2.1, y.2.2.1, y.2.2.2.1, y.2.2.2.2.1, ())] ≤ 2513169434916) then bif decide (List.length x15 + List.length [r.1 ++ [(y.1, y.2.1, y.2.2.1, y.2.2.2.1, y.2.2.2.2.1, ())]] ≤ 5864062014805) then some (Sum.inl (x0, x1, x2, IntKind.wrap IntKind.i64 (x3 + Int.ofNat 1), x4, x5, x6, x7, x8, x9, x10, x11, x12, x13, x14,
 x15 ++ [r.1 ++ [(y.1, y.2.1, y.2.2.1, y.2.2.2.1, y.2.2.2.2.1, ())]], es', ())) else none else none else none else some (Sum.inl (x0, x1, x2, IntKind.wrap IntKind.i64 (x3 + Int.ofNat 1), x4, x5, x6, x7, x8, x9, x10, x11, x12, x13, x14, x15, x16, ())) else none else some (Sum.inr (x0, x4, x5, x6, x7, x8, x9, x10, x11, x12, x13, x14, x15, x16, ())) := by kernel_rfl
theorem B29_2_eq (x0 : Int) (x1 : ByteArray) (x2 x3 : List (Ty.D r0)) (x4 : List (Ty.D r4)) (x5 : List (Ty.D r2)) (x6 : List (Ty.D r3)) (x7 : ByteArray) (x8 x9 x10 : Int) (x11 : ByteArray) (x12 : List (List (Ty.D r0))) (x13 : List (Ty.D r0 × Bool)) : B29_2 (x0, x1, x2, x3, x4, x5, x6, x7, x8, x9, x10, x11, x12, x13, ()) = bif decide (x0 < Int.ofNat (List.length x12)) then
 bif decide (Int.ofNat 0 ≤ x0) then Option.bind x12[Int.toNat x0]? fun (y : List (ByteArray × Int × Int × Int × ByteArray × Unit)) => bif decide (Int.ofNat 0 ≤ x0) then Option.bind x12[Int.toNat x0]? fun (y_1 : List (ByteArray × Int × Int × Int × ByteArray × Unit)) => bif decide (Int.ofNat 0 ≤ IntKind.wrap IntKind.i64 (Int.ofNat (List.length y_1) - Int.ofNat 1)) then
 Option.bind y[Int.toNat (IntKind.wrap IntKind.i64 (Int.ofNat (List.length y_1) - Int.ofNat 1))]? fun (y : ByteArray × Int × Int × Int × ByteArray × Unit) => bif ByteArray.toList y.1 == ByteArray.toList x7 && (y.2.1 == x8 && (y.2.2.1 == x9 && (y.2.2.2.1 == x10 && ByteArray.toList y.2.2.2.2.1 == ByteArray.toList x11))) then bif decide (Int.ofNat 0 ≤ x0) then
 Option.bind x12[Int.toNat x0]? fun (y : List (ByteArray × Int × Int × Int × ByteArray × Unit)) => Option.bind (F56 (y, ())) fun (r : List (ByteArray × Int × Int × Int × ByteArray × Unit) × Unit) => some (Sum.inr (Sum.inl (true, r.1, ()))) else none else Option.bind (F52 (x1, x2, x3, x4, x5, x6, y.1, y.2.1, y.2.2.1, y.2.2.2.1, y.2.2.2.2.1, ()))
 fun (r : List (ByteArray × Int × Int × Int × ByteArray × Unit) × Int × Unit) => Option.bind (loop B29_1 (x0, r.1, Int.ofNat (List.length r.1), Int.ofNat 0, x1, x2, x3, x4, x5, x6, x7, x8, x9, x10, x11, x12, x13, ())) fun (r : Int × ByteArray × List (ByteArray × Int × Int × Int × ByteArray × Unit) × List (ByteArray × Int × Int × Int × ByteArray × Unit) ×
 List (ByteArray × ByteArray × Int × Int × Int × ByteArray × Unit) × List (ByteArray × List (Int × Int × Int × ByteArray × List (ByteArray × Int × Int × Int × ByteArray × Unit) × ByteArray × ByteArray × Unit) × Unit) × List (ByteArray × ByteArray × Bool × Bool × Int × Int × Int × ByteArray × Int × Unit) × ByteArray × Int × Int × Int × ByteArray ×
 List (List (ByteArray × Int × Int × Int × ByteArray × Unit)) × List ((ByteArray × Int × Int × Int × ByteArray × Unit) × Bool) × Unit) => some (Sum.inl (IntKind.wrap IntKind.i64 (r.1 + Int.ofNat 1), r.2.1, r.2.2.1, r.2.2.2.1, r.2.2.2.2.1, r.2.2.2.2.2.1, r.2.2.2.2.2.2.1, r.2.2.2.2.2.2.2.1, r.2.2.2.2.2.2.2.2.1, r.2.2.2.2.2.2.2.2.2.1, r.2.2.2.2.2.2.2.2.2.2.1, r.2.2.2.2.2.2.2.2.2.2.2.1,
 r.2.2.2.2.2.2.2.2.2.2.2.2.1, r.2.2.2.2.2.2.2.2.2.2.2.2.2.1, ())) else none else none else none else some (Sum.inr (Sum.inr ())) := by kernel_rfl
theorem F29_eq (x0 : List (Ty.D r2)) (x1 : List (Ty.D r3)) (x2 : ByteArray) (x3 x4 : List (Ty.D r0)) (x5 : List (Ty.D r4)) (x6 : ByteArray) : F29 (x0, x1, x2, x3, x4, x5, x6, ()) = Option.bind (F43 (x0, x1, x2, x3, x4, x5, ())) fun (r : ByteArray × List (ByteArray × Int × Int × Int × ByteArray × Unit) × List (ByteArray × Int × Int × Int × ByteArray × Unit) ×
 List (ByteArray × ByteArray × Int × Int × Int × ByteArray × Unit) × List (ByteArray × List (Int × Int × Int × ByteArray × List (ByteArray × Int × Int × Int × ByteArray × Unit) × ByteArray × ByteArray × Unit) × Unit) × List (ByteArray × ByteArray × Bool × Bool × Int × Int × Int × ByteArray × Int × Unit) × Unit) => Option.bind (F44 (r.1, r.2.1, r.2.2.1, r.2.2.2.1, r.2.2.2.2.1, r.2.2.2.2.2.1, ()))
 fun (r_1 : List (ByteArray × Int × Int × Int × ByteArray × Unit) × Int × Unit) => Option.bind (F45 (r.1, r.2.1, r.2.2.1, r.2.2.2.1, r.2.2.2.2.1, r.2.2.2.2.2.1, r_1.1, ())) fun (r_2 : List (ByteArray × Int × Int × Int × ByteArray × ByteArray × Int × Int × Int × ByteArray × Unit) × Unit) => Option.bind (F20 (r_2.1, x6, ())) fun
 (r_3 : ByteArray × Int × Int × Int × ByteArray × ByteArray × Int × Int × Int × ByteArray × Bool × Unit) => bif !r_1.2.1 == Int.ofNat 0 then some ([], false, ()) else bif !r_3.2.2.2.2.2.2.2.2.2.2.1 then some ([], false, ()) else Option.bind (F53 (r.1, r.2.1, r.2.2.1, r.2.2.2.1, r.2.2.2.2.1, r.2.2.2.2.2.1, r.2.1, ()))
 fun (r_4 : Int × List (ByteArray × Int × Int × Int × ByteArray × Unit) × Unit) => Option.bind (F54 (r_4.2.1, ())) fun (r_5 : List (ByteArray × Int × Int × Int × ByteArray × Unit) × Unit) => Option.bind (loop B29_0 (Int.ofNat (List.length r_5.1), Int.ofNat 0, r.1, r.2.1, r.2.2.1, r.2.2.2.1, r.2.2.2.2.1, r.2.2.2.2.2.1, x6, r_3.2.1, r_3.2.2.1, r_3.2.2.2.1, r_3.2.2.2.2.1, [], [], r_5.1, ())) fun
 (r : ByteArray × List (ByteArray × Int × Int × Int × ByteArray × Unit) × List (ByteArray × Int × Int × Int × ByteArray × Unit) × List (ByteArray × ByteArray × Int × Int × Int × ByteArray × Unit) × List (ByteArray × List (Int × Int × Int × ByteArray × List (ByteArray × Int × Int × Int × ByteArray × Unit) × ByteArray × ByteArray × Unit) × Unit) × List (ByteArray ×
 ByteArray × Bool × Bool × Int × Int × Int × ByteArray × Int × Unit) × ByteArray × Int × Int × Int × ByteArray × List (List (ByteArray × Int × Int × Int × ByteArray × Unit)) × List ((ByteArray × Int × Int × Int × ByteArray × Unit) × Bool) × Unit) => Option.bind (loop B29_2 (Int.ofNat 0, r.1, r.2.1, r.2.2.1, r.2.2.2.1, r.2.2.2.2.1, r.2.2.2.2.2.1, r.2.2.2.2.2.2.1,
 r.2.2.2.2.2.2.2.1, r.2.2.2.2.2.2.2.2.1, r.2.2.2.2.2.2.2.2.2.1, r.2.2.2.2.2.2.2.2.2.2.1, r.2.2.2.2.2.2.2.2.2.2.2.1, r.2.2.2.2.2.2.2.2.2.2.2.2.1, ())) fun (r : Bool × List (ByteArray × Int × Int × Int × ByteArray × Unit) × Unit ⊕ Unit) => Sum.elim (fun (p : Bool × List (ByteArray × Int × Int × Int × ByteArray × Unit) × Unit) => some (p.2.1, p.1, ()))
 (fun (p : Unit) => some ([], false, ())) r := by kernel_rfl
theorem F10_eq (x0 : Int) (x1 : List Int) (x2 x3 : Int) : F10 (x0, x1, x2, x3, ()) = Option.bind (F13 ()) fun (r : Bool × Unit) => bif !r.1 then some (false, ()) else Option.bind (F14 (x0, x1, true, ())) fun (r : List (ByteArray × List (Int × Int × Int × ByteArray × List (ByteArray × Int × Int × Int × ByteArray × Unit) × ByteArray × ByteArray × Unit) × Unit) ×
 List (ByteArray × ByteArray × Bool × Bool × Int × Int × Int × ByteArray × Int × Unit) × Unit) => Option.bind (F16 (x2, Int.ofNat (List.length r.1), ())) fun (r_1 : Int × Unit) => bif decide (Int.ofNat 0 ≤ r_1.1) then Option.bind r.1[Int.toNat r_1.1]? fun (y : ByteArray × List (Int × Int × Int × ByteArray × List (ByteArray × Int × Int × Int × ByteArray × Unit) × ByteArray × ByteArray × Unit) ×
 Unit) => Option.bind (F16 (x3, Int.ofNat (List.length y.2.1), ())) fun (r_2 : Int × Unit) => bif decide (Int.ofNat 0 ≤ r_2.1) then Option.bind y.2.1[Int.toNat r_2.1]? fun (y_1 : Int × Int × Int × ByteArray × List (ByteArray × Int × Int × Int × ByteArray × Unit) × ByteArray × ByteArray × Unit) => Option.bind (F19 (r.1, r.2.1, (lit [109, 97, 105, 110]),
 [(y.1, y_1.1, y_1.2.1, y_1.2.2.1, y_1.2.2.2.1, ())], [], [], ())) fun (r_3 : List (ByteArray × Int × Int × Int × ByteArray × ByteArray × Int × Int × Int × ByteArray × Unit) × Int × Unit) => Option.bind (F20 (r_3.1, y.1, ())) fun (r_4 : ByteArray × Int × Int × Int × ByteArray × ByteArray × Int × Int × Int × ByteArray × Bool × Unit) => Option.bind (F29 (r.1, r.2.1, (lit [109, 97, 105, 110]),
 [(y.1, y_1.1, y_1.2.1, y_1.2.2.1, y_1.2.2.2.1, ())], [], [], y.1, ())) fun (r : List (ByteArray × Int × Int × Int × ByteArray × Unit) × Bool × Unit) => bif !r_3.2.1 == Int.ofNat 0 then some (false, ()) else bif !r_4.2.2.2.2.2.2.2.2.2.2.1 then some (false, ()) else Option.bind (F21 (r_4.2.1, r_4.2.2.1, r_4.2.2.2.1, r_4.2.2.2.2.1, y_1.1, y_1.2.1, y_1.2.2.1, y_1.2.2.2.1, ()))
 fun (r_5 : Int × Unit) => bif decide (r_5.1 < Int.ofNat 0) then some (false, ()) else bif !r.2.1 then some (false, ()) else bif Int.ofNat (List.length r.1) == Int.ofNat 0 then some (false, ()) else Option.bind r.1[0]? fun (y_2 : ByteArray × Int × Int × Int × ByteArray × Unit) => bif !(ByteArray.toList y_2.1 == ByteArray.toList y.1 && (y_2.2.1 == y_1.1 && (y_2.2.2.1 == y_1.2.1 &&
 (y_2.2.2.2.1 == y_1.2.2.1 && ByteArray.toList y_2.2.2.2.2.1 == ByteArray.toList y_1.2.2.2.1)))) then some (false, ()) else some ((Int.ofNat (List.length r.1) == Int.ofNat 1) == (r_4.2.1 == y_1.1 && (r_4.2.2.1 == y_1.2.1 && (r_4.2.2.2.1 == y_1.2.2.1 && ByteArray.toList r_4.2.2.2.2.1 == ByteArray.toList y_1.2.2.2.1))), ()) else none else none := by kernel_rfl
theorem F11_eq (x0 : Int) (x1 x2 : List Int) (x3 : Int) : F11 (x0, x1, x2, x3, ()) = Option.bind (F13 ()) fun (r : Bool × Unit) => bif !r.1 then some (false, ()) else Option.bind (F14 (x0, x1, true, ())) fun (r : List (ByteArray × List (Int × Int × Int × ByteArray × List (ByteArray × Int × Int × Int × ByteArray × Unit) × ByteArray × ByteArray × Unit) × Unit) ×
 List (ByteArray × ByteArray × Bool × Bool × Int × Int × Int × ByteArray × Int × Unit) × Unit) => Option.bind (F15 (r.1, r.2.1, x2, ())) fun (r_1 : ByteArray × List (ByteArray × Int × Int × Int × ByteArray × Unit) × List (ByteArray × Int × Int × Int × ByteArray × Unit) × List (ByteArray × ByteArray × Int × Int × Int × ByteArray × Unit) × Unit) =>
 Option.bind (F19 (r.1, r.2.1, r_1.1, r_1.2.1, r_1.2.2.1, r_1.2.2.2.1, ())) fun (r_2 : List (ByteArray × Int × Int × Int × ByteArray × ByteArray × Int × Int × Int × ByteArray × Unit) × Int × Unit) => Option.bind (F22 (r.1, r.2.1, r_1.1, r_1.2.1, r_1.2.2.1, r_1.2.2.2.1, ())) fun (r_3 : List (ByteArray × Int × Int × Int × ByteArray × ByteArray × Int × Int × Int × ByteArray × Unit) × Int × Unit) =>
 bif !r_2.2.1 == r_3.2.1 then some (false, ()) else Option.bind (F23 (r_2.1, r_3.1, ())) fun (r_4 : Bool × Unit) => bif !r_4.1 then some (false, ()) else Option.bind (F16 (x3, Int.ofNat (List.length r.1), ())) fun (r_5 : Int × Unit) => bif decide (Int.ofNat 0 ≤ r_5.1) then Option.bind r.1[Int.toNat r_5.1]? fun (y : ByteArray × List (Int × Int × Int × ByteArray ×
 List (ByteArray × Int × Int × Int × ByteArray × Unit) × ByteArray × ByteArray × Unit) × Unit) => Option.bind (F16 (IntKind.wrap IntKind.i64 (Int.tdiv x3 (Int.ofNat 7)), Int.ofNat (List.length y.2.1), ())) fun (r_6 : Int × Unit) => bif decide (Int.ofNat 0 ≤ r_6.1) then Option.bind y.2.1[Int.toNat r_6.1]? fun (y_1 : Int × Int × Int × ByteArray ×
 List (ByteArray × Int × Int × Int × ByteArray × Unit) × ByteArray × ByteArray × Unit) => Option.bind (F16 (x3, Int.ofNat 9, ())) fun (r_7 : Int × Unit) => bif r_7.1 == Int.ofNat 0 then Option.bind (F26 (r.1, r.2.1, r_1.1, r_1.2.1, r_1.2.2.1, r_1.2.2.2.1, y.1, y_1.1, y_1.2.1, Int.ofNat 9, y_1.2.2.2.1, ())) fun (r_8 : List (ByteArray × Int × Int × Int × ByteArray × Unit) × Int × Unit) =>
 Option.bind (F30 (r.1, r.2.1, r_1.1, r_1.2.1, r_1.2.2.1, r_1.2.2.2.1, y.1, y_1.1, y_1.2.1, Int.ofNat 9, y_1.2.2.2.1, ())) fun (r_9 : List (ByteArray × Int × Int × Int × ByteArray × Unit) × Int × Unit) => Option.bind (F29 (r.1, r.2.1, r_1.1, r_1.2.1, r_1.2.2.1, r_1.2.2.2.1, y.1, ())) fun (r_10 : List (ByteArray × Int × Int × Int × ByteArray × Unit) × Bool × Unit) => Option.bind
 (F31 (r.1, r.2.1, r_1.1, r_1.2.1, r_1.2.2.1, r_1.2.2.2.1, y.1, ())) fun (r : List (ByteArray × Int × Int × Int × ByteArray × Unit) × Bool × Unit) => bif r_8.2.1 == r_9.2.1 then Option.bind (F32 (r_8.1, r_9.1, ())) fun (r_11 : Bool × Unit) => bif r_11.1 then bif r_10.2.1 == r.2.1 then Option.bind (F32 (r_10.1, r.1, ())) fun (r : Bool × Unit) => some (r.1, ()) else some (false, ())
 else some (false, ()) else some (false, ()) else Option.bind (F26 (r.1, r.2.1, r_1.1, r_1.2.1, r_1.2.2.1, r_1.2.2.2.1, y.1, y_1.1, y_1.2.1, y_1.2.2.1, y_1.2.2.2.1, ())) fun (r_8 : List (ByteArray × Int × Int × Int × ByteArray × Unit) × Int × Unit) => Option.bind (F30 (r.1, r.2.1, r_1.1, r_1.2.1, r_1.2.2.1, r_1.2.2.2.1, y.1, y_1.1, y_1.2.1, y_1.2.2.1, y_1.2.2.2.1, ())) fun (r_9 :
 List (ByteArray × Int × Int × Int × ByteArray × Unit) × Int × Unit) => Option.bind (F29 (r.1, r.2.1, r_1.1, r_1.2.1, r_1.2.2.1, r_1.2.2.2.1, y.1, ())) fun (r_10 : List (ByteArray × Int × Int × Int × ByteArray × Unit) × Bool × Unit) => Option.bind (F31 (r.1, r.2.1, r_1.1, r_1.2.1, r_1.2.2.1, r_1.2.2.2.1, y.1, ())) fun (r : List (ByteArray × Int × Int × Int × ByteArray × Unit) × Bool × Unit) =>
 bif r_8.2.1 == r_9.2.1 then Option.bind (F32 (r_8.1, r_9.1, ())) fun (r_11 : Bool × Unit) => bif r_11.1 then bif r_10.2.1 == r.2.1 then Option.bind (F32 (r_10.1, r.1, ())) fun (r : Bool × Unit) => some (r.1, ()) else some (false, ()) else some (false, ()) else some (false, ()) else none else none := by kernel_rfl
theorem B12_0_eq (x0 : List (Ty.D r0)) (x1 : Int) (x2 : List (Ty.D r0)) (x3 : Int) (x4 : Bool) (x5 : Int) (x6 : List (Ty.D r2)) (x7 : List (Ty.D r3)) (x8 : ByteArray) (x9 x10 : List (Ty.D r0)) (x11 : List (Ty.D r4)) : B12_0 (x0, x1, x2, x3, x4, x5, x6, x7, x8, x9, x10, x11, ()) = bif decide (x5 < Int.ofNat (List.length x2)) then bif x4 then some (Sum.inl
 (x0, x1, x2, x3, true, IntKind.wrap IntKind.i64 (x5 + Int.ofNat 1), x6, x7, x8, x9, x10, x11, ())) else bif decide (Int.ofNat 0 ≤ x5) then Option.bind x2[Int.toNat x5]? fun (y : ByteArray × Int × Int × Int × ByteArray × Unit) => bif decide (Int.ofNat 0 ≤ x1) then Option.bind x0[Int.toNat x1]? fun (y_1 : ByteArray × Int × Int × Int × ByteArray × Unit) => some (Sum.inl (x0, x1, x2, x3,
 ByteArray.toList y.1 == ByteArray.toList y_1.1 && (y.2.1 == y_1.2.1 && (y.2.2.1 == y_1.2.2.1 && (y.2.2.2.1 == y_1.2.2.2.1 && ByteArray.toList y.2.2.2.2.1 == ByteArray.toList y_1.2.2.2.2.1))), IntKind.wrap IntKind.i64 (x5 + Int.ofNat 1), x6, x7, x8, x9, x10, x11, ())) else none else none else some (Sum.inr (x0, x1, x3, x4, x6, x7, x8, x9, x10, x11, ())) := by kernel_rfl
theorem B12_1_eq (x0 : List (Ty.D r0)) (x1 : Int) (x2 : List (Ty.D r2)) (x3 : List (Ty.D r3)) (x4 : ByteArray) (x5 x6 : List (Ty.D r0)) (x7 : List (Ty.D r4)) : B12_1 (x0, x1, x2, x3, x4, x5, x6, x7, ()) = bif decide (x1 < Int.ofNat (List.length x0)) then bif decide (Int.ofNat 0 ≤ IntKind.wrap IntKind.i64 (x1 - Int.ofNat 1)) then
 Option.bind x0[Int.toNat (IntKind.wrap IntKind.i64 (x1 - Int.ofNat 1))]? fun (y : ByteArray × Int × Int × Int × ByteArray × Unit) => Option.bind (F26 (x2, x3, x4, x5, x6, x7, y.1, y.2.1, y.2.2.1, y.2.2.2.1, y.2.2.2.2.1, ())) fun (r : List (ByteArray × Int × Int × Int × ByteArray × Unit) × Int × Unit) => Option.bind (loop B12_0 (x0, x1, r.1, r.2.1, false, Int.ofNat 0, x2, x3, x4, x5, x6, x7, ()))
 fun (r : List (ByteArray × Int × Int × Int × ByteArray × Unit) × Int × Int × Bool × List (ByteArray × List (Int × Int × Int × ByteArray × List (ByteArray × Int × Int × Int × ByteArray × Unit) × ByteArray × ByteArray × Unit) × Unit) × List (ByteArray × ByteArray × Bool × Bool × Int × Int × Int × ByteArray × Int × Unit) × ByteArray × List (ByteArray × Int × Int × Int × ByteArray × Unit) ×
 List (ByteArray × Int × Int × Int × ByteArray × Unit) × List (ByteArray × ByteArray × Int × Int × Int × ByteArray × Unit) × Unit) => bif !r.2.2.1 == Int.ofNat 0 then some (Sum.inr (Sum.inl (false, ()))) else bif !r.2.2.2.1 then some (Sum.inr (Sum.inl (false, ()))) else some (Sum.inl (r.1, IntKind.wrap IntKind.i64 (r.2.1 + Int.ofNat 1), r.2.2.2.2.1, r.2.2.2.2.2.1, r.2.2.2.2.2.2.1,
 r.2.2.2.2.2.2.2.1, r.2.2.2.2.2.2.2.2.1, r.2.2.2.2.2.2.2.2.2.1, ())) else none else some (Sum.inr (Sum.inr ())) := by kernel_rfl
theorem F12_eq (x0 : Int) (x1 x2 : List Int) (x3 : Int) : F12 (x0, x1, x2, x3, ()) = Option.bind (F13 ()) fun (r : Bool × Unit) => bif !r.1 then some (false, ()) else Option.bind (F14 (x0, x1, true, ())) fun (r : List (ByteArray × List (Int × Int × Int × ByteArray × List (ByteArray × Int × Int × Int × ByteArray × Unit) × ByteArray × ByteArray × Unit) × Unit) ×
 List (ByteArray × ByteArray × Bool × Bool × Int × Int × Int × ByteArray × Int × Unit) × Unit) => Option.bind (F15 (r.1, r.2.1, x2, ())) fun (r_1 : ByteArray × List (ByteArray × Int × Int × Int × ByteArray × Unit) × List (ByteArray × Int × Int × Int × ByteArray × Unit) × List (ByteArray × ByteArray × Int × Int × Int × ByteArray × Unit) × Unit) =>
 Option.bind (F19 (r.1, r.2.1, r_1.1, r_1.2.1, r_1.2.2.1, r_1.2.2.2.1, ())) fun (r_2 : List (ByteArray × Int × Int × Int × ByteArray × ByteArray × Int × Int × Int × ByteArray × Unit) × Int × Unit) => Option.bind (F16 (x3, Int.ofNat (List.length r.1), ())) fun (r_3 : Int × Unit) => bif decide (Int.ofNat 0 ≤ r_3.1) then Option.bind r.1[Int.toNat r_3.1]? fun (y : ByteArray × List (Int × Int × Int ×
 ByteArray × List (ByteArray × Int × Int × Int × ByteArray × Unit) × ByteArray × ByteArray × Unit) × Unit) => Option.bind (F20 (r_2.1, y.1, ())) fun (r_4 : ByteArray × Int × Int × Int × ByteArray × ByteArray × Int × Int × Int × ByteArray × Bool × Unit) => Option.bind (F29 (r.1, r.2.1, r_1.1, r_1.2.1, r_1.2.2.1, r_1.2.2.2.1, y.1, ()))
 fun (r_5 : List (ByteArray × Int × Int × Int × ByteArray × Unit) × Bool × Unit) => bif r_2.2.1 == Int.ofNat 0 then bif !r_5.2.1 == r_4.2.2.2.2.2.2.2.2.2.2.1 then some (false, ()) else bif !r_5.2.1 then some (Int.ofNat (List.length r_5.1) == Int.ofNat 0, ()) else bif Int.ofNat (List.length r_5.1) == Int.ofNat 0 then some (false, ()) else bif decide (Int.ofNat 0 ≤
 IntKind.wrap IntKind.i64 (Int.ofNat (List.length r_5.1) - Int.ofNat 1)) then Option.bind r_5.1[Int.toNat (IntKind.wrap IntKind.i64 (Int.ofNat (List.length r_5.1) - Int.ofNat 1))]? fun (y_1 : ByteArray × Int × Int × Int × ByteArray × Unit) => bif !(ByteArray.toList y_1.1 == ByteArray.toList y.1 && (y_1.2.1 == r_4.2.1 && (y_1.2.2.1 == r_4.2.2.1 && (y_1.2.2.2.1 == r_4.2.2.2.1 &&
 ByteArray.toList y_1.2.2.2.2.1 == ByteArray.toList r_4.2.2.2.2.1)))) then some (false, ()) else Option.bind (loop B12_1 (r_5.1, Int.ofNat 1, r.1, r.2.1, r_1.1, r_1.2.1, r_1.2.2.1, r_1.2.2.2.1, ())) fun (r : Bool × Unit ⊕ Unit) => Sum.elim (fun (p : Bool × Unit) => some (p.1, ())) (fun (p : Unit) => some (true, ())) r else none else bif !r_5.2.1 == false then some (false, ()) else
 bif !r_5.2.1 then some (Int.ofNat (List.length r_5.1) == Int.ofNat 0, ()) else bif Int.ofNat (List.length r_5.1) == Int.ofNat 0 then some (false, ()) else bif decide (Int.ofNat 0 ≤ IntKind.wrap IntKind.i64 (Int.ofNat (List.length r_5.1) - Int.ofNat 1)) then Option.bind r_5.1[Int.toNat (IntKind.wrap IntKind.i64 (Int.ofNat (List.length r_5.1) - Int.ofNat 1))]?
 fun (y_1 : ByteArray × Int × Int × Int × ByteArray × Unit) => bif !(ByteArray.toList y_1.1 == ByteArray.toList y.1 && (y_1.2.1 == r_4.2.1 && (y_1.2.2.1 == r_4.2.2.1 && (y_1.2.2.2.1 == r_4.2.2.2.1 && ByteArray.toList y_1.2.2.2.2.1 == ByteArray.toList r_4.2.2.2.2.1)))) then some (false, ()) else Option.bind (loop B12_1 (r_5.1, Int.ofNat 1, r.1, r.2.1, r_1.1, r_1.2.1, r_1.2.2.1, r_1.2.2.2.1, ()))
 fun (r : Bool × Unit ⊕ Unit) => Sum.elim (fun (p : Bool × Unit) => some (p.1, ())) (fun (p : Unit) => some (true, ())) r else none else none := by kernel_rfl
end Go.Vx.Z
/-! All that some ask for; what a release asks for. -/
namespace Go.Vx
open Go
set_option linter.unusedVariables false
/-- Each once, where equal ones lie side by side. -/
def compactOf : List Req → List Req
  | [] => []
  | [x] => [x]
  | x :: y :: l => if x = y then compactOf (y :: l) else x :: compactOf (y :: l)
theorem compactOf_snoc (z : Req) : ∀ (l : List Req), compactOf (l ++ [z]) = if l.getLast? = some z then compactOf l else compactOf l ++ [z]
  | [] => by simp [compactOf]
  | [x] => by
    simp only [List.cons_append, List.nil_append, compactOf, List.getLast?_singleton, Option.some.injEq]
    by_cases h : x = z <;> simp [h]
  | x :: y :: l => by
    have ih := compactOf_snoc z (y :: l)
    simp only [List.cons_append, compactOf] at ih ⊢
    rw [ih]
    simp only [List.getLast?_cons_cons]
    by_cases h : x = y <;> by_cases h' : (y :: l).getLast? = some z <;> simp [h, h']
theorem wrap_prev {i n : Nat} (h0 : 1 ≤ i) (h : i ≤ n) (hn : n ≤ 9223372036854775807) : IntKind.wrap IntKind.i64 ((i : Int) - Int.ofNat 1) = ((i - 1 : Nat) : Int) := by
  rw [wrap64 (by simp; omega) (by simp; omega)]
  simp; omega
/-- What is asked for in a pair's stead. -/
def standsFor (sw : List Swp) (r : Req) : Req := (swapOf sw r.1).elim r fun y => y.2
/-- What a release asks for. -/
def asksOf (md : ByteArray) (ex : List Req) (sw : List Swp) (w : List Mod) (r : Req) : Int × List Req :=
  match relOf w (standsFor sw r).1 (standsFor sw r).2 with
  | none => (9, [])
  | some y => if (allOf md ex sw w y.reqs).1 = 0 then (0, compactOf (sortBy cmpR (allOf md ex sw w y.reqs).2)) else ((allOf md ex sw w y.reqs).1, [])
end Go.Vx
namespace Go.Vx.Z
open Go Go.Vx
set_option linter.unusedVariables false
set_option maxRecDepth 100000
section
variable (md : ByteArray) (rq ex : List Req) (sw : List Swp) (w : List Mod) (rv : List Rev)
def joinOf (acc : List Req) (t : Int × List Req) : Int × List Req := if t.1 = 0 then (0, acc ++ t.2) else (t.1, [])
theorem saidOf_err (r : Req) (h : (saidOf md ex sw w r).1 ≠ 0) : (saidOf md ex sw w r).2 = none := by
  unfold saidOf at h ⊢
  split
  · rename_i h1; rw [if_pos h1] at h; exact absurd rfl h
  · split
    · rfl
    · split
      · split
        · rfl
        · rename_i h1 h2 h3 h4; rw [if_neg h1, if_neg h2, if_pos h3, if_neg h4] at h; exact absurd rfl h
      · split
        · rename_i h1 h2 h3 h4; rw [if_neg h1, if_neg h2, if_neg h3, if_pos h4] at h; exact absurd rfl h
        · rfl
theorem saidOf_some (r q : Req) (h : (saidOf md ex sw w r).2 = some q) : (saidOf md ex sw w r).1 = 0 := by
  by_cases h0 : (saidOf md ex sw w r).1 = 0
  · exact h0
  · rw [saidOf_err md ex sw w r h0] at h; cases h
theorem F53_is (l : List Req) (hl : ∀ r ∈ l, okV r.2 = true) (hn : l.length ≤ big) (h : okS ex sw w) : F53 (md, rq, ex, sw, w, rv, l, ()) = some ((allOf md ex sw w l).1, (allOf md ex sw w l).2, ()) := by
  rw [F53_eq]
  obtain ⟨e, h1, h2⟩ := loop_inv (B := B53_0) (fun p => ∃ (i : Nat) (acc : List Req), i ≤ l.length ∧ acc.length ≤ i ∧ allOf md ex sw w l = joinOf acc (allOf md ex sw w (l.drop i)) ∧ p = (l, Int.ofNat l.length, (i : Int), md, rq, ex, sw, w, rv, acc, ())) (fun p => (Int.ofNat l.length - p.2.2.1).toNat)
    (fun e => (e = .inl ((allOf md ex sw w l).1, ()) ∧ (allOf md ex sw w l).2 = []) ∨ (e = .inr ((allOf md ex sw w l).2, ()) ∧ (allOf md ex sw w l).1 = 0)) (by
      rintro p ⟨i, acc, hi, ha, hj, rfl⟩
      rw [B53_0_eq]
      by_cases hlt : i < l.length
      · rw [lt_in hlt, ge_zero, at_in hlt, wrap_next hlt (by simp only [big] at hn; omega)]
        simp only [cond_true, Option.bind_some]
        rw [F72_is md rq ex sw w rv l[i] (hl _ (List.getElem_mem hlt)) h, Option.bind_some]
        rw [List.drop_eq_getElem_cons hlt] at hj
        cases hq : (saidOf md ex sw w l[i]).2 with
        | none =>
          simp only [Option.elim_none]
          by_cases h0 : (saidOf md ex sw w l[i]).1 = 0
          · rw [show (!(saidOf md ex sw w l[i]).1 == Int.ofNat 0) = false by rw [h0]; rfl]
            refine .inl ⟨_, rfl, ⟨i + 1, acc, hlt, by omega, ?_, rfl⟩, ?_⟩
            · rw [hj]
              simp only [allOf, h0, if_true, hq, Option.toList_none, List.nil_append, joinOf]
              split <;> simp_all
            · simp; omega
          · have hb : (!(saidOf md ex sw w l[i]).1 == Int.ofNat 0) = true := by
              rw [Bool.not_eq_true', ← Bool.not_eq_true]
              intro e; exact h0 (by simpa using e)
            rw [hb]
            have : allOf md ex sw w l = ((saidOf md ex sw w l[i]).1, []) := by
              rw [hj]
              simp only [allOf, if_neg h0, joinOf]
            refine .inr ⟨_, rfl, .inl ⟨?_, by rw [this]⟩⟩
            rw [this]
        | some q =>
          have h0 := saidOf_some md ex sw w l[i] q hq
          simp only [Option.elim_some]
          rw [show (!(0 : Int) == Int.ofNat 0) = false from rfl]
          have e2 : decide (acc.length + [(q.1, q.2.1, q.2.2.1, q.2.2.2.1, q.2.2.2.2.1, ())].length ≤ 2513169434916) = true := by
            rw [decide_eq_true_eq]
            simp only [big] at hn
            simp only [List.length_cons, List.length_nil]
            omega
          simp only [cond_false, cond_true]
          rw [e2]
          refine .inl ⟨_, rfl, ⟨i + 1, acc ++ [q], hlt, by simp; omega, ?_, rfl⟩, ?_⟩
          · rw [hj]
            simp only [allOf, h0, if_true, hq, Option.toList_some, joinOf]
            split <;> simp_all
          · simp; omega
      · have : i = l.length := by omega
        subst this
        rw [lt_out]
        rw [List.drop_length] at hj
        have hj' : allOf md ex sw w l = (0, acc) := by rw [hj]; simp [allOf, joinOf]
        exact .inr ⟨_, rfl, .inr ⟨by rw [hj'], by rw [hj']⟩⟩) (l, Int.ofNat l.length, Int.ofNat 0, md, rq, ex, sw, w, rv, [], ()) ⟨0, [], by omega, by simp, by
        simp only [List.drop_zero, joinOf, List.nil_append]
        by_cases h0 : (allOf md ex sw w l).1 = 0
        · rw [if_pos h0]; exact Prod.ext h0 rfl
        · rw [if_neg h0]
          refine Prod.ext rfl ?_
          cases l with
          | nil => rfl
          | cons r l =>
            simp only [allOf] at h0 ⊢
            split
            · rename_i q1; rw [if_pos q1] at h0
              split
              · rename_i q2; rw [if_pos q2] at h0; exact absurd rfl h0
              · rfl
            · rfl, rfl⟩
  rw [h1, Option.bind_some]
  rcases h2 with ⟨rfl, h3⟩ | ⟨rfl, h3⟩
  · show some ((allOf md ex sw w l).1, [], ()) = _
    rw [h3]
  · show some (Int.ofNat 0, (allOf md ex sw w l).2, ()) = _
    rw [h3]; rfl
end
theorem take_last {l : List Req} {k : Nat} (h0 : 1 ≤ k) (h : k ≤ l.length) : (l.take k).getLast? = l[k - 1]? := by
  rw [List.getLast?_eq_getElem?, List.length_take, Nat.min_eq_left h, List.getElem?_take, if_pos (by omega)]
theorem compact_in (l : List Req) (k0 : Nat) (h1 : 1 ≤ k0) (hk : k0 < l.length) (hn : l.length ≤ big) (heq : l[k0] = l[k0 - 1]) (hc : compactOf (l.take k0) = l.take k0) :
    ∃ (k' : Nat) (b : List Req), loop B71_0 ((k0 : Int), k0, l.length, ((1 : Nat) : Int), l, ()) = some ((k' : Int), b, ()) ∧ k' ≤ l.length ∧ b.length = l.length ∧ b.take k' = compactOf l := by
  obtain ⟨⟨k', b⟩, h4, h5⟩ := loop_upto (B := B71_0) (l.length - k0) (fun j (b : Nat × List Req) => ((b.1 : Int), k0, l.length, (j : Int), b.2, ())) (fun b => ((b.1 : Int), b.2, ()))
    (fun j b => 1 ≤ j ∧ b.1 + 1 ≤ k0 + j ∧ b.2.length = l.length ∧ b.2.drop b.1 = l.drop b.1 ∧ b.2.take b.1 = compactOf (l.take (k0 + j))) (by
      rintro j hj ⟨i0, b⟩ ⟨q0, q1, q2, q3, q4⟩
      simp only at q1 q2 q3 q4 ⊢
      have hkj : k0 + j < l.length := by omega
      have hkb : k0 + j < b.length := by omega
      have hget : ∀ t, i0 ≤ t → b[t]? = l[t]? := fun t ht => by
        have := congrArg (fun z => z[t - i0]?) q3
        simpa [List.getElem?_drop, show i0 + (t - i0) = t by omega] using this
      have g1 : b[k0 + Int.toNat (j : Int)]? = some l[k0 + j] := by
        rw [Int.toNat_natCast, hget _ (by omega)]; simp [hkj]
      have g2 : b[k0 + Int.toNat ((j - 1 : Nat) : Int)]? = some l[k0 + j - 1] := by
        rw [Int.toNat_natCast, show k0 + (j - 1) = k0 + j - 1 by omega, hget _ (by omega)]
        simp [show k0 + j - 1 < l.length by omega]
      have htk : l.take (k0 + (j + 1)) = l.take (k0 + j) ++ [l[k0 + j]] := by rw [← Nat.add_assoc, List.take_succ_eq_append_getElem hkj]
      have hlast : (l.take (k0 + j)).getLast? = some l[k0 + j - 1] := by
        rw [take_last (by omega) (by omega)]
        simp [show k0 + j - 1 < l.length by omega]
      have hj1 : j - 1 < l.length - k0 := by omega
      have hi0 : i0 < b.length := by omega
      rw [B71_0_eq, lt_in hj, ge_zero, g1, wrap_prev q0 (show j ≤ l.length by omega) (by simp only [big] at hn; omega), lt_in hj1, ge_zero, wrap_next hj (by simp only [big] at hn; omega)]
      simp only [Bool.and_self, cond_true, Option.bind_some, g2, beq_bs]
      show ∃ b', (bif !(eqR l[k0 + j] l[k0 + j - 1]) then _ else _) = _ ∧ _
      cases he : eqR l[k0 + j] l[k0 + j - 1] with
      | true =>
        refine ⟨(i0, b), rfl, by omega, by simp only; omega, q2, q3, ?_⟩
        rw [htk, compactOf_snoc, hlast, if_pos (by rw [eqR_iff.1 he])]
        exact q4
      | false =>
        have hne : l[k0 + j - 1] ≠ l[k0 + j] := fun e => by rw [eqR_iff.2 e.symm] at he; cases he
        simp only [Bool.not_false, cond_true]
        rw [lt_both hi0, at_in hi0, wrap_next hi0 (by simp only [big] at hn; omega)]
        refine ⟨(i0 + 1, b.set i0 l[k0 + j]), rfl, by omega, by simp only; omega, by simp [q2], ?_, ?_⟩
        · simp only
          rw [List.drop_set_of_lt (by omega)]
          have := congrArg (List.drop 1) q3
          simpa [List.drop_drop] using this
        · simp only
          rw [htk, compactOf_snoc, hlast, if_neg (by simpa using hne), ← q4, List.take_succ_eq_append_getElem (by simpa using hi0), List.take_set_of_le (Nat.le_refl _)]
          simp) (by
      rintro ⟨i0, b⟩ ⟨q0, q1, q2, q3, q4⟩
      rw [B71_0_eq, lt_out]
      rfl) 1 (k0, l) (by omega) ⟨Nat.le_refl _, by simp, rfl, rfl, by
        simp only
        rw [List.take_succ_eq_append_getElem hk, compactOf_snoc, take_last h1 (by omega), if_pos (by rw [heq]; simp [show k0 - 1 < l.length by omega]), hc]⟩
  obtain ⟨q0, q1, q2, q3, q4⟩ := h5
  simp only at q1 q2 q3 q4
  refine ⟨k', b, h4, by omega, q2, ?_⟩
  rw [q4, show k0 + (l.length - k0) = l.length by omega, List.take_length]
theorem F71_is (l : List Req) (hn : l.length ≤ big) : ∃ l', F71 (l, ()) = some (compactOf l, l', ()) := by
  rw [F71_eq]
  by_cases h2 : l.length < 2
  · rw [show decide (Int.ofNat l.length < Int.ofNat 2) = true by simp; omega]
    match l, h2 with
    | [], _ => exact ⟨[], rfl⟩
    | [x], _ => exact ⟨[x], rfl⟩
    | _ :: _ :: _, h2 => simp at h2; omega
  · rw [show decide (Int.ofNat l.length < Int.ofNat 2) = false by simp; omega, cond_false]
    obtain ⟨e, h1, h3⟩ := loop_inv (B := B71_1) (fun p => ∃ k : Nat, 1 ≤ k ∧ k ≤ l.length ∧ compactOf (l.take k) = l.take k ∧ p = ((k : Int), l, ())) (fun p => (Int.ofNat l.length - p.1).toNat)
      (fun e => (e = .inr (l, ()) ∧ compactOf l = l) ∨ ∃ k' b, e = .inl (0, k', b, ()) ∧ b.take k' = compactOf l) (by
        rintro p ⟨k, hk1, hk2, hc, rfl⟩
        rw [B71_1_eq]
        by_cases hlt : k < l.length
        · have hk1' : k - 1 < l.length := by omega
          rw [lt_in hlt, ge_zero, at_in hlt, wrap_prev hk1 (show k ≤ l.length by omega) (by simp only [big] at hn; omega), lt_in hk1', ge_zero, at_in hk1', wrap_next hlt (by simp only [big] at hn; omega)]
          simp only [Bool.and_self, cond_true, Option.bind_some, beq_bs]
          have htk : l.take (k + 1) = l.take k ++ [l[k]] := by rw [List.take_succ_eq_append_getElem hlt]
          have hlast : (l.take k).getLast? = some l[k - 1] := by rw [take_last hk1 (by omega)]; simp [hk1']
          show (∃ q, (bif eqR l[k] l[k - 1] then _ else _) = _ ∧ _) ∨ ∃ e, (bif eqR l[k] l[k - 1] then _ else _) = _ ∧ _
          cases he : eqR l[k] l[k - 1] with
          | false =>
            have hne : l[k - 1] ≠ l[k] := fun e => by rw [eqR_iff.2 e.symm] at he; cases he
            refine .inl ⟨_, rfl, ⟨k + 1, by omega, hlt, ?_, rfl⟩, ?_⟩
            · rw [htk, compactOf_snoc, hlast, if_neg (by simpa using hne), hc]
            · simp; omega
          | true =>
            refine .inr ?_
            simp only [cond_true]
            have e1 : (true && (decide ((k : Int) ≤ Int.ofNat l.length) && decide (Int.ofNat l.length ≤ Int.ofNat l.length))) = true := by
              simp; exact hk2
            rw [e1, cond_true]
            obtain ⟨k', b, h4, h5, h6, h7⟩ := compact_in l k hk1 hlt hn (eqR_iff.1 he) hc
            rw [show 0 + Int.toNat (k : Int) = k by simp, show 0 + Int.toNat (Int.ofNat l.length) = l.length by simp, show (Int.ofNat 1 : Int) = ((1 : Nat) : Int) from rfl, h4, Option.bind_some]
            have hle : k' ≤ b.length := by omega
            have e2 : ∀ (z : Req), (b.take (0 + Int.toNat (k' : Int)) ++ List.replicate (0 + Int.toNat (Int.ofNat b.length) - (0 + Int.toNat (k' : Int))) z ++ b.drop (0 + Int.toNat (k' : Int) + (0 + Int.toNat (Int.ofNat b.length) - (0 + Int.toNat (k' : Int))))).length = b.length := by
              intro z; simp; omega
            have e4 : (decide (Int.ofNat 0 ≤ (k' : Int)) && (decide ((k' : Int) ≤ Int.ofNat b.length) && decide (Int.ofNat b.length ≤ Int.ofNat b.length))) = true := by
              simp; exact hle
            simp only
            rw [e4, cond_true, e2, e4, cond_true]
            refine ⟨_, rfl, .inr ⟨_, _, rfl, ?_⟩⟩
            rw [← h7]
            simp [hle]
        · have : k = l.length := by omega
          subst this
          rw [lt_out]
          refine .inr ⟨_, rfl, .inl ⟨rfl, ?_⟩⟩
          rwa [List.take_length] at hc) (Int.ofNat 1, l, ()) ⟨1, Nat.le_refl _, by omega, by
          cases l with
          | nil => rfl
          | cons x l => simp [compactOf], rfl⟩
    rw [h1, Option.bind_some]
    rcases h3 with ⟨rfl, h4⟩ | ⟨k', b, rfl, h4⟩
    · exact ⟨l, by rw [h4]; rfl⟩
    · refine ⟨b, ?_⟩
      show some (List.drop 0 (List.take k' b), b, ()) = _
      rw [h4]
      rfl
theorem F70_is (l : List Req) : F70 (l, ()) = some (l, ()) := by
  rw [F70_eq]
  have e1 : (decide (Int.ofNat 0 ≤ Int.ofNat l.length) && (decide (Int.ofNat l.length ≤ Int.ofNat l.length) && decide (Int.ofNat l.length ≤ Int.ofNat l.length))) = true := by simp
  rw [e1, cond_true]
  simp
section
variable (md : ByteArray) (rq ex : List Req) (sw : List Swp) (w : List Mod) (rv : List Rev)
theorem maxV_mem : ∀ (l : List Ver), l ≠ [] → maxV l ∈ l
  | [], h => absurd rfl h
  | v :: l, _ => by
    have key : ∀ (l : List Ver) (m : Ver), (l.foldl (fun m x => if cmpV x m > 0 then x else m) m) = m ∨ (l.foldl (fun m x => if cmpV x m > 0 then x else m) m) ∈ l := by
      intro l
      induction l with
      | nil => intro m; exact .inl rfl
      | cons x l ih =>
        intro m
        rw [List.foldl_cons]
        split
        · rcases ih x with h | h
          · exact .inr (by rw [h]; simp)
          · exact .inr (List.mem_cons_of_mem _ h)
        · rcases ih m with h | h
          · exact .inl h
          · exact .inr (List.mem_cons_of_mem _ h)
    rcases key l v with h | h
    · exact List.mem_cons.2 (.inl h)
    · exact List.mem_cons_of_mem _ h
theorem saidOf_path (r q : Req) (h : (saidOf md ex sw w r).2 = some q) : q.1 = r.1 ∧ (q = r ∨ q.2 ∈ versOf w r.1) := by
  unfold saidOf at h
  split at h
  · injection h with h; subst h; exact ⟨rfl, .inl rfl⟩
  · split at h
    · cases h
    · split at h
      · split at h
        · cases h
        · rename_i h4
          injection h with h
          subst h
          exact ⟨rfl, .inr (List.mem_filter.1 (maxV_mem _ h4)).1⟩
      · split at h
        · injection h with h; subst h; exact ⟨rfl, .inl rfl⟩
        · cases h
theorem saidOf_ok (h : okS ex sw w) (r q : Req) (hr : okR r = true) (hq : (saidOf md ex sw w r).2 = some q) : okR q = true := by
  obtain ⟨h1, h2 | h2⟩ := saidOf_path md ex sw w r q hq
  · rw [h2]; exact hr
  · have hv := (versOf_ok (p := r.1) h.hw h.vers).2 _ h2
    unfold okR at hr ⊢
    rw [h1, hv]
    simp only [Bool.and_eq_true] at hr
    rw [hr.1]; rfl
theorem allOf_mem : ∀ (l : List Req) (q : Req), q ∈ (allOf md ex sw w l).2 → ∃ r ∈ l, (saidOf md ex sw w r).2 = some q
  | [], q, h => by simp [allOf] at h
  | r :: l, q, h => by
    simp only [allOf] at h
    split at h
    · split at h
      · rcases List.mem_append.1 h with h | h
        · exact ⟨r, by simp, by simpa using h⟩
        · obtain ⟨r', h1, h2⟩ := allOf_mem l q h
          exact ⟨r', List.mem_cons_of_mem _ h1, h2⟩
      · simp at h
    · simp at h
theorem allOf_len : ∀ (l : List Req), (allOf md ex sw w l).2.length ≤ l.length
  | [] => by simp [allOf]
  | r :: l => by
    have := allOf_len l
    have h1 : (saidOf md ex sw w r).2.toList.length ≤ 1 := by cases (saidOf md ex sw w r).2 <;> simp
    simp only [allOf]
    split
    · split
      · simp; omega
      · simp
    · simp
theorem allOf_ok (h : okS ex sw w) (l : List Req) (hl : ∀ r ∈ l, okR r = true) : ∀ q ∈ (allOf md ex sw w l).2, okR q = true := fun q hq => by
  obtain ⟨r, h1, h2⟩ := allOf_mem md ex sw w l q hq
  exact saidOf_ok md ex sw w h r q (hl r h1) h2
theorem F54_is (l : List Req) (hl : ∀ r ∈ l, okR r = true) (hn : l.length ≤ big) : F54 (l, ()) = some (sortBy cmpR l, ()) := by
  unfold F54 FSort
  have : (l.all okR && decide (l.length < 4611686018427387904)) = true := by
    rw [Bool.and_eq_true, List.all_eq_true, decide_eq_true_eq]
    exact ⟨hl, by simp only [big] at hn; omega⟩
  show (bif l.all okR && decide (l.length < 4611686018427387904) then _ else _) = _
  rw [this]
  rfl
theorem sortBy_perm (l : List Req) : (sortBy cmpR l).Perm l := by
  cases l with
  | nil => exact .refl _
  | cons x l =>
    unfold sortBy
    have hp := pdq_range (swo_at lin_cmpR.swo fun i => (x :: l).getD i x) (x :: l).length
    refine (hp.map _).trans ?_
    have : (List.range (x :: l).length).map (fun i => (x :: l).getD i x) = x :: l := by
      apply List.ext_getElem
      · simp
      · intro i h1 h2
        simp only [List.getElem_map, List.getElem_range]
        rw [List.getD_eq_getElem?_getD, List.getElem?_eq_getElem h2]
        rfl
    rw [this]
theorem rel_ok (h : okS ex sw w) {p : ByteArray} {v : Ver} {y : Rel} (hy : relOf w p v = some y) : y.reqs.length ≤ big ∧ ∀ q ∈ y.reqs, okR q = true := by
  have h1 : y ∈ relsOf w p := List.mem_of_find?_eq_some hy
  refine ⟨(relsOf_len h.hw).2 y h1, ?_⟩
  unfold relsOf at h1
  cases hm : modOf w p with
  | none => rw [hm] at h1; simp at h1
  | some m =>
    rw [hm] at h1
    exact h.reqs m (modOf_mem hm) y h1
theorem okR_ver {r : Req} (h : okR r = true) : okV r.2 = true := by
  unfold okR at h
  simp only [Bool.and_eq_true] at h
  exact h.2
theorem asks_end (h : okS ex sw w) (x : Req) : (Option.bind (F69 (w, rv, x.1, x.2.1, x.2.2.1, x.2.2.2.1, x.2.2.2.2.1, ()))
        fun
          (r :
            Int ×
              Int ×
                Int ×
                  ByteArray ×
                    List (ByteArray × Int × Int × Int × ByteArray × Unit) × ByteArray × ByteArray × Bool × Unit) =>
        bif !r.2.2.2.2.2.2.2.1 then some ([], Int.ofNat 9, ())
        else
          Option.bind (F53 (md, rq, ex, sw, w, rv, r.2.2.2.2.1, ()))
            fun (r : Int × List (ByteArray × Int × Int × Int × ByteArray × Unit) × Unit) =>
            bif !r.1 == Int.ofNat 0 then some ([], r.1, ())
            else
              Option.bind (F54 (r.2.1, ()))
                fun (r : List (ByteArray × Int × Int × Int × ByteArray × Unit) × Unit) =>
                Option.bind (F71 (r.1, ()))
                  fun
                    (r :
                      List (ByteArray × Int × Int × Int × ByteArray × Unit) ×
                        List (ByteArray × Int × Int × Int × ByteArray × Unit) × Unit) =>
                  Option.bind (F70 (r.1, ()))
                    fun (r : List (ByteArray × Int × Int × Int × ByteArray × Unit) × Unit) =>
                    some (r.1, Int.ofNat 0, ())) =
    some (match relOf w x.1 x.2 with
      | none => ([], 9, ())
      | some y => if (allOf md ex sw w y.reqs).1 = 0 then (compactOf (sortBy cmpR (allOf md ex sw w y.reqs).2), 0, ()) else ([], (allOf md ex sw w y.reqs).1, ())) := by
  rw [F69_is w rv x.1 x.2 h.hw, Option.bind_some]
  cases hy : relOf w x.1 x.2 with
  | none => rfl
  | some y =>
    obtain ⟨hlen, hok⟩ := rel_ok ex sw w h hy
    simp only [Option.elim_some, Bool.not_true, cond_false]
    have h53 := F53_is md rq ex sw w rv y.reqs (fun r hr => okR_ver (hok r hr)) hlen h
    have h53' : F53 (md, rq, ex, sw, w, rv, y.2.2.2.2.1, ()) = some ((allOf md ex sw w y.reqs).1, (allOf md ex sw w y.reqs).2, ()) := h53
    rw [h53', Option.bind_some]
    simp only
    by_cases h0 : (allOf md ex sw w y.reqs).1 = 0
    · have hl2 : (allOf md ex sw w y.reqs).2.length ≤ big := Nat.le_trans (allOf_len md ex sw w _) hlen
      rw [if_pos h0, show (!(allOf md ex sw w y.reqs).1 == Int.ofNat 0) = false by rw [h0]; rfl, cond_false]
      rw [F54_is _ (allOf_ok md ex sw w h _ hok) hl2, Option.bind_some]
      obtain ⟨l', h71⟩ := F71_is (sortBy cmpR (allOf md ex sw w y.reqs).2) (by rw [(sortBy_perm _).length_eq]; exact hl2)
      simp only
      rw [h71, Option.bind_some, F70_is]
      rfl
    · have hb : (!(allOf md ex sw w y.reqs).1 == Int.ofNat 0) = true := by
        rw [Bool.not_eq_true', ← Bool.not_eq_true]
        intro e; exact h0 (by simpa using e)
      rw [if_neg h0, hb]
      rfl
theorem F52_is (h : okS ex sw w) (r : Req) : F52 (md, rq, ex, sw, w, rv, r.1, r.2.1, r.2.2.1, r.2.2.2.1, r.2.2.2.2.1, ()) = some ((asksOf md ex sw w r).2, (asksOf md ex sw w r).1, ()) := by
  rw [F52_eq, F66_is md rq ex sw w rv r.1 h.hsw, Option.bind_some]
  unfold asksOf standsFor
  cases hsw : swapOf sw r.1 with
  | some y =>
    simp only [Option.elim_some, cond_true]
    rw [asks_end md rq ex sw w rv h y.2]
    split
    · rfl
    · split <;> rfl
  | none =>
    simp only [Option.elim_none, cond_false]
    rw [asks_end md rq ex sw w rv h r]
    split
    · rfl
    · split <;> rfl
end
end Go.Vx.Z
/-! All that is asked for, as it is taken up. -/
namespace Go.Vx
open Go
set_option linter.unusedVariables false
/-- What the queue comes to: what the manifest asks for, what that asks for, and so on. -/
inductive Reach (md : ByteArray) (ex : List Req) (sw : List Swp) (w : List Mod) (rq : List Req) : Req → Prop
  | base {r : Req} : r ∈ (allOf md ex sw w rq).2 → Reach md ex sw w rq r
  | step {r a : Req} : Reach md ex sw w rq r → a ∈ (asksOf md ex sw w r).2 → Reach md ex sw w rq a
/-- All releases' Requires. -/
def worldReqs (w : List Mod) : List Req := w.flatMap fun m => m.2.1.flatMap Rel.reqs
/-- What may come up. -/
def mayCome (w : List Mod) (rq : List Req) : List Req := (rq ++ worldReqs w).flatMap fun r => r :: (versOf w r.1).map fun v => (r.1, v)
theorem nodup_length {α : Type} {l k : List α} (hl : l.Nodup) (h : ∀ x ∈ l, x ∈ k) : l.length ≤ k.length := by
  classical
  induction l generalizing k with
  | nil => simp
  | cons x l ih =>
    rw [List.nodup_cons] at hl
    have hx : x ∈ k := h x (by simp)
    have := ih (k := k.erase x) hl.2 (fun y hy => by
      have hyk := h y (List.mem_cons_of_mem _ hy)
      rw [List.mem_erase_of_ne (fun e => hl.1 (by rw [← e]; exact hy))]
      exact hyk)
    rw [List.length_erase_of_mem hx] at this
    have : 0 < k.length := List.length_pos_of_mem hx
    simp
    omega
end Go.Vx
namespace Go.Vx.Z
open Go Go.Vx
set_option linter.unusedVariables false
set_option maxRecDepth 100000
theorem eqTy_req0 (k x : Req) : eqTy Proofs.Tryz.prog 8 43 (cellsOf r0 k) (cellsOf r0 x) = some (k.1.toList == x.1.toList && (k.2.1 == x.2.1 && (k.2.2.1 == x.2.2.1 && (k.2.2.2.1 == x.2.2.2.1 && k.2.2.2.2.1.toList == x.2.2.2.2.1.toList)))) := by kernel_rfl
theorem eqTy_req (k x : Req) : eqTy Proofs.Tryz.prog 8 43 (cellsOf r0 k) (cellsOf r0 x) = some (eqR k x) := by
  rw [eqTy_req0, beq_bs, beq_bs]; rfl
def mapOf (l : List Req) : List (Req × Bool) := l.map fun r => (r, true)
theorem mget_is (k : Req) : ∀ l : List Req, mget Proofs.Tryz.prog 43 r0 k (mapOf l) = some (l.any (eqR k))
  | [] => rfl
  | x :: l => by
    show (eqTy Proofs.Tryz.prog 8 43 (cellsOf r0 k) (cellsOf r0 x)).bind (fun q => bif q then some true else mget Proofs.Tryz.prog 43 r0 k (mapOf l)) = _
    rw [eqTy_req, Option.bind_some, mget_is k l, List.any_cons]
    cases eqR k x <;> rfl
theorem mput_is (k : Req) : ∀ l : List Req, l.any (eqR k) = false → mput Proofs.Tryz.prog 43 r0 k true (mapOf l) = some (mapOf (l ++ [k]))
  | [], _ => rfl
  | x :: l, h => by
    rw [List.any_cons, Bool.or_eq_false_iff] at h
    show (eqTy Proofs.Tryz.prog 8 43 (cellsOf r0 k) (cellsOf r0 x)).bind (fun q => bif q then (bif dEqB r0 k x then some ((k, true) :: mapOf l) else none) else (mput Proofs.Tryz.prog 43 r0 k true (mapOf l)).map ((x, true) :: ·)) = _
    rw [eqTy_req, Option.bind_some, h.1, cond_false, mput_is k l h.2]
    rfl
theorem any_eqR {k : Req} {l : List Req} : l.any (eqR k) = true ↔ k ∈ l := by
  rw [List.any_eq_true]
  constructor
  · rintro ⟨x, h1, h2⟩; rw [eqR_iff.1 h2]; exact h1
  · intro h; exact ⟨k, h, eqR_iff.2 rfl⟩
section
variable (md : ByteArray) (rq ex : List Req) (sw : List Swp) (w : List Mod) (rv : List Rev)
/-- One round of the queue. -/
theorem B44_is (at_ : Nat) (q out : List Req) (hat : at_ < q.length) (hq : q.length ≤ big) (ho : out.length ≤ big) (h : okS ex sw w) (hlim : q.length + (asksOf md ex sw w q[at_]).2.length ≤ big) :
    B44_0 (0, (at_ : Int), md, rq, ex, sw, w, rv, q, mapOf out, out, ()) = some (bif out.any (eqR q[at_]) then .inl (0, ((at_ + 1 : Nat) : Int), md, rq, ex, sw, w, rv, q, mapOf out, out, ())
      else .inl ((asksOf md ex sw w q[at_]).1, ((at_ + 1 : Nat) : Int), md, rq, ex, sw, w, rv, q ++ (asksOf md ex sw w q[at_]).2, mapOf (out ++ [q[at_]]), out ++ [q[at_]], ())) := by
  refine (B44_0_eq _ _ _ _ _ _ _ _ _ _ _).trans ?_
  rw [show ((0 : Int) == Int.ofNat 0) = true from rfl, lt_in hat, ge_zero, at_in hat, wrap_next hat (by simp only [big] at hq; omega)]
  simp only [Bool.and_self, cond_true, Option.bind_some]
  have hg := mget_is q[at_] out
  show (Option.bind (mget Proofs.Tryz.prog 43 r0 q[at_] (mapOf out)) _) = _
  rw [hg, Option.bind_some]
  by_cases hm : q[at_] ∈ out
  · rw [any_eqR.2 hm]
    rfl
  · have hf : out.any (eqR q[at_]) = false := by
      rw [← Bool.not_eq_true]; exact fun e => hm (any_eqR.1 e)
    rw [hf, cond_false]
    show (Option.bind (mput Proofs.Tryz.prog 43 r0 q[at_] true (mapOf out)) _) = _
    rw [mput_is _ _ hf, Option.bind_some]
    have e1 : ∀ z : Req, decide (out.length + [z].length ≤ 2513169434916) = true := by
      intro z; rw [decide_eq_true_eq]; simp only [big] at ho; simp only [List.length_cons, List.length_nil]; omega
    rw [e1, cond_true, F52_is md rq ex sw w rv h q[at_], Option.bind_some]
    have e2 : decide (q.length + (asksOf md ex sw w q[at_]).2.length ≤ 2513169434916) = true := by
      rw [decide_eq_true_eq]; simp only [big] at hlim; omega
    rw [e2]
    rfl
/-- What the queue comes to: all, each once; or the first error of what comes up. -/
theorem closed_ok (h : okS ex sw w) (hrq : ∀ r ∈ rq, okR r = true) (hrl : rq.length ≤ big) (U : List Req) (M : Nat) (hU : ∀ r, Reach md ex sw w rq r → r ∈ U) (hM : ∀ r, (asksOf md ex sw w r).2.length ≤ M) (hb : (U.length + 1) * (M + 1) + rq.length ≤ big) :
    ∃ (e : Int) (out : List Req), F44 (md, rq, ex, sw, w, rv, ()) = some (out, e, ()) ∧
      ((e = 0 ∧ (allOf md ex sw w rq).1 = 0 ∧ out.Nodup ∧ (∀ r, r ∈ out ↔ Reach md ex sw w rq r) ∧ ∀ r ∈ out, (asksOf md ex sw w r).1 = 0) ∨
       (e ≠ 0 ∧ out = [] ∧ ((allOf md ex sw w rq).1 = e ∨ ∃ r, Reach md ex sw w rq r ∧ (asksOf md ex sw w r).1 = e))) := by
  rw [F44_eq, F53_is md rq ex sw w rv rq (fun r hr => okR_ver (hrq r hr)) hrl h, Option.bind_some]
  by_cases h0 : (allOf md ex sw w rq).1 = 0
  · simp only [h0]
    obtain ⟨x, h1, h2⟩ := loop_inv (B := B44_0) (fun p => ∃ (e : Int) (at_ : Nat) (q out : List Req), p = (e, (at_ : Int), md, rq, ex, sw, w, rv, q, mapOf out, out, ()) ∧ at_ ≤ q.length ∧ out.Nodup ∧ (∀ r ∈ out, Reach md ex sw w rq r) ∧ (∀ r ∈ q, Reach md ex sw w rq r) ∧
        ((e = 0 ∧ (∀ r ∈ (allOf md ex sw w rq).2, r ∈ q) ∧ (∀ r ∈ q.take at_, r ∈ out) ∧ (∀ r ∈ out, (asksOf md ex sw w r).1 = 0 ∧ ∀ a ∈ (asksOf md ex sw w r).2, a ∈ q) ∧ q.length ≤ rq.length + out.length * M) ∨
          (e ≠ 0 ∧ ∃ r, Reach md ex sw w rq r ∧ (asksOf md ex sw w r).1 = e)))
      (fun p => if p.1 = 0 then (U.length + 1 - p.2.2.2.2.2.2.2.2.2.2.1.length) * (M + 1) + (Int.ofNat p.2.2.2.2.2.2.2.2.1.length - p.2.1).toNat + 1 else 0)
      (fun x => ∃ (e : Int) (out : List Req), x = (e, out, ()) ∧ ((e = 0 ∧ out.Nodup ∧ (∀ r, r ∈ out ↔ Reach md ex sw w rq r) ∧ ∀ r ∈ out, (asksOf md ex sw w r).1 = 0) ∨ (e ≠ 0 ∧ ∃ r, Reach md ex sw w rq r ∧ (asksOf md ex sw w r).1 = e))) (by
        rintro p ⟨e, at_, q, out, rfl, hat, hnd, hor, hqr, hcase⟩
        rcases hcase with ⟨rfl, hq0, hdone, hask, hql⟩ | ⟨hne, r, hr1, hr2⟩
        · by_cases hlt : at_ < q.length
          · have hol : out.length ≤ U.length := nodup_length hnd fun r hr => hU r (hor r hr)
            have hmul : out.length * M ≤ U.length * M := Nat.mul_le_mul_right M hol
            have hexp : (U.length + 1) * (M + 1) = U.length * M + U.length + M + 1 := by rw [Nat.add_mul, Nat.mul_add, Nat.mul_one, Nat.one_mul]; omega
            have hMq := hM q[at_]
            have hB := B44_is md rq ex sw w rv at_ q out hlt (by omega) (by omega) h (by omega)
            refine .inl ?_
            by_cases hm : q[at_] ∈ out
            · rw [any_eqR.2 hm, cond_true] at hB
              refine ⟨_, hB, ⟨0, at_ + 1, q, out, rfl, hlt, hnd, hor, hqr, .inl ⟨rfl, hq0, ?_, hask, hql⟩⟩, ?_⟩
              · intro r hr
                rw [List.take_succ_eq_append_getElem hlt] at hr
                rcases List.mem_append.1 hr with hr | hr
                · exact hdone r hr
                · rw [List.mem_singleton.1 hr]; exact hm
              · simp only [if_true]
                have : (Int.ofNat q.length - ((at_ + 1 : Nat) : Int)).toNat < (Int.ofNat q.length - (at_ : Int)).toNat := by simp; omega
                omega
            · rw [show out.any (eqR q[at_]) = false from by rw [← Bool.not_eq_true]; exact fun e => hm (any_eqR.1 e), cond_false] at hB
              have hreach : Reach md ex sw w rq q[at_] := hqr _ (List.getElem_mem hlt)
              have hnd' : (out ++ [q[at_]]).Nodup := by
                rw [List.nodup_append]
                refine ⟨hnd, by simp, fun a ha b hb' => ?_⟩
                rw [List.mem_singleton.1 hb']
                exact fun e => hm (by rw [← e]; exact ha)
              have hor' : ∀ r ∈ out ++ [q[at_]], Reach md ex sw w rq r := fun r hr => by
                rcases List.mem_append.1 hr with hr | hr
                · exact hor r hr
                · rw [List.mem_singleton.1 hr]; exact hreach
              have hqr' : ∀ r ∈ q ++ (asksOf md ex sw w q[at_]).2, Reach md ex sw w rq r := fun r hr => by
                rcases List.mem_append.1 hr with hr | hr
                · exact hqr r hr
                · exact .step hreach hr
              have hol' : out.length + 1 ≤ U.length := by
                have := nodup_length hnd' fun r hr => hU r (hor' r hr)
                simpa using this
              refine ⟨_, hB, ⟨_, at_ + 1, _, _, rfl, by simp; omega, hnd', hor', hqr', ?_⟩, ?_⟩
              · by_cases he : (asksOf md ex sw w q[at_]).1 = 0
                · refine .inl ⟨he, fun r hr => List.mem_append_left _ (hq0 r hr), ?_, ?_, ?_⟩
                  · intro r hr
                    rw [List.take_append_of_le_length (by omega), List.take_succ_eq_append_getElem hlt] at hr
                    rcases List.mem_append.1 hr with hr | hr
                    · exact List.mem_append_left _ (hdone r hr)
                    · exact List.mem_append_right _ hr
                  · intro r hr
                    rcases List.mem_append.1 hr with hr | hr
                    · exact ⟨(hask r hr).1, fun a ha => List.mem_append_left _ ((hask r hr).2 a ha)⟩
                    · rw [List.mem_singleton.1 hr]
                      exact ⟨he, fun a ha => List.mem_append_right _ ha⟩
                  · simp only [List.length_append, List.length_singleton, Nat.add_mul, Nat.one_mul]
                    omega
                · exact .inr ⟨he, _, hreach, rfl⟩
              · simp only [if_true]
                split
                · simp only [List.length_append, List.length_singleton]
                  have e1 : (U.length + 1 - out.length) * (M + 1) = (U.length + 1 - (out.length + 1)) * (M + 1) + (M + 1) := by
                    rw [show U.length + 1 - out.length = (U.length + 1 - (out.length + 1)) + 1 by omega, Nat.add_mul, Nat.one_mul]
                  rw [e1]
                  have e2 : (Int.ofNat (q.length + (asksOf md ex sw w q[at_]).2.length) - ((at_ + 1 : Nat) : Int)).toNat ≤ q.length + M - (at_ + 1) := by simp; omega
                  have e3 : (Int.ofNat q.length - (at_ : Int)).toNat = q.length - at_ := by simp
                  omega
                · omega
          · have : at_ = q.length := by omega
            subst this
            refine .inr ⟨(0, out, ()), ?_, 0, out, rfl, .inl ⟨rfl, hnd, ?_, fun r hr => (hask r hr).1⟩⟩
            · rw [B44_0_eq, show ((0 : Int) == Int.ofNat 0) = true from rfl, lt_out]
              rfl
            · rw [List.take_length] at hdone
              intro r
              refine ⟨hor r, fun hr => ?_⟩
              induction hr with
              | base hr => exact hdone _ (hq0 _ hr)
              | step _ ha ih => exact hdone _ ((hask _ ih).2 _ ha)
        · refine .inr ⟨(e, out, ()), ?_, e, out, rfl, .inr ⟨hne, r, hr1, hr2⟩⟩
          have hb' : (e == Int.ofNat 0) = false := by
            rw [← Bool.not_eq_true]; exact fun h => hne (by simpa using h)
          rw [B44_0_eq, hb']
          rfl) (0, Int.ofNat 0, md, rq, ex, sw, w, rv, (allOf md ex sw w rq).2, [], [], ()) ⟨0, 0, _, [], rfl, by omega, .nil, by simp, fun r hr => .base hr, .inl ⟨rfl, fun r hr => hr, by simp, by simp, by
          have := allOf_len md ex sw w rq
          simp; exact this⟩⟩
    rw [h1, Option.bind_some]
    obtain ⟨e, out, rfl, h3⟩ := h2
    rcases h3 with ⟨rfl, h4, h5, h6⟩ | ⟨h4, r, h5, h6⟩
    · exact ⟨0, out, rfl, .inl ⟨rfl, trivial, h4, h5, h6⟩⟩
    · have hb' : (!e == Int.ofNat 0) = true := by
        rw [Bool.not_eq_true', ← Bool.not_eq_true]
        exact fun h => h4 (by simpa using h)
      refine ⟨e, [], ?_, .inr ⟨h4, rfl, .inr ⟨r, h5, h6⟩⟩⟩
      simp only [hb']
      rfl
  · have hl : loop B44_0 ((allOf md ex sw w rq).1, Int.ofNat 0, md, rq, ex, sw, w, rv, (allOf md ex sw w rq).2, [], [], ()) = some ((allOf md ex sw w rq).1, [], ()) := by
      refine loop_end ?_
      have hb' : ((allOf md ex sw w rq).1 == Int.ofNat 0) = false := by
        rw [← Bool.not_eq_true]; exact fun h => h0 (by simpa using h)
      rw [B44_0_eq, hb']
      rfl
    rw [hl, Option.bind_some]
    have hb' : (!(allOf md ex sw w rq).1 == Int.ofNat 0) = true := by
      rw [Bool.not_eq_true', ← Bool.not_eq_true]
      exact fun h => h0 (by simpa using h)
    refine ⟨(allOf md ex sw w rq).1, [], ?_, .inr ⟨h0, rfl, .inl rfl⟩⟩
    simp only [hb']
    rfl
end
end Go.Vx.Z
/-! What is built. -/
namespace Go.Vx
open Go
set_option linter.unusedVariables false
theorem sortBy_sorted (l : List Req) : (sortBy cmpR l).Pairwise fun a b => cmpR b a < 0 → False := by
  cases l with
  | nil => exact .nil
  | cons x l =>
    have hO : Sort.SWO (Proofs.ltOf fun i j => cmpR ((x :: l).getD i x) ((x :: l).getD j x)) := swo_at lin_cmpR.swo fun i => (x :: l).getD i x
    obtain ⟨_, h2⟩ := Sort.pdq_sorts _ hO (Array.range (x :: l).length) 0 (x :: l).length (Lib.bitLen (x :: l).length) true true (Nat.zero_le _) (by simp) (Or.inl rfl)
    unfold sortBy sortIdx
    rw [List.pairwise_map, List.pairwise_iff_getElem]
    intro i j hi hj hij hlt
    have hlen := (pdq_range hO (x :: l).length).length_eq
    simp only [sortIdx, List.length_range] at hlen
    have h3 := h2 i j (Nat.zero_le _) hij (by omega)
    rw [getElem!_pos _ j (by simpa using hj), getElem!_pos _ i (by simpa using hi)] at h3
    simp only [Array.getElem_toList] at hlt
    unfold Proofs.ltOf at h3
    simp only [decide_eq_false_iff_not] at h3
    exact h3 hlt
/-- A pair, as it is built. -/
def mkB (sw : List Swp) (r : Req) : Blt := (r.1, r.2.1, r.2.2.1, r.2.2.2.1, r.2.2.2.2.1, (swapOf sw r.1).elim (lit [], 0, 0, 0, lit [], ()) fun y => y.2)
/-- Of each path the last. -/
def lasts : List Req → List Req
  | [] => []
  | [x] => [x]
  | x :: y :: l => if y.1 = x.1 then lasts (y :: l) else x :: lasts (y :: l)
theorem lasts_drop {l : List Req} {i : Nat} (h : i < l.length) : lasts (l.drop i) = (match l[i + 1]? with
    | some y => if y.1 = l[i].1 then lasts (l.drop (i + 1)) else l[i] :: lasts (l.drop (i + 1))
    | none => [l[i]]) := by
  rw [List.drop_eq_getElem_cons h]
  by_cases h1 : i + 1 < l.length
  · rw [List.getElem?_eq_getElem h1, List.drop_eq_getElem_cons h1]
    rfl
  · rw [List.getElem?_eq_none (by omega), List.drop_eq_nil_of_le (by omega)]
    rfl
end Go.Vx
namespace Go.Vx.Z
open Go Go.Vx
set_option linter.unusedVariables false
set_option maxRecDepth 100000
section
variable (md : ByteArray) (rq ex : List Req) (sw : List Swp) (w : List Mod) (rv : List Rev)
theorem F45_is (l : List Req) (hl : ∀ r ∈ l, okR r = true) (hn : l.length ≤ big) (h : sw.length ≤ big) : F45 (md, rq, ex, sw, w, rv, l, ()) = some ((lasts (sortBy cmpR l)).map (mkB sw), ()) := by
  have hsl : (sortBy cmpR l).length ≤ big := by rw [(sortBy_perm l).length_eq]; exact hn
  rw [F45_eq, F65_eq, Option.bind_some, F64_eq]
  have h83 : F83 (l, ()) = some (l, l, ()) := by
    rw [F83_eq]
    have : decide (l.length ≤ 2513169434916) = true := by rw [decide_eq_true_eq]; simp only [big] at hn; omega
    rw [this]; rfl
  simp only
  rw [h83, Option.bind_some]
  simp only
  rw [F54_is l hl hn, Option.bind_some, Option.bind_some]
  simp only
  generalize sortBy cmpR l = s at hsl
  obtain ⟨x, h1, h2⟩ := loop_upto (B := B45_0) s.length (fun i (b : List Blt) => (Int.ofNat s.length, (i : Int), s, md, rq, ex, sw, w, rv, b, ())) (fun b => (b, ()))
    (fun i b => b.length ≤ i ∧ (lasts s).map (mkB sw) = b ++ (lasts (s.drop i)).map (mkB sw)) (by
      rintro i hi b ⟨hbl, hb⟩
      have h66 := F66_is md rq ex sw w rv s[i].1 h
      have e2 : ∀ z : Blt, decide (b.length + [z].length ≤ 1256584717458) = true := by
        intro z; rw [decide_eq_true_eq]; simp only [big] at hsl; simp only [List.length_cons, List.length_nil]; omega
      have hmk : ∀ (r : ByteArray × ByteArray × Int × Int × Int × ByteArray × Bool × Unit), r = (swapOf sw s[i].1).elim (lit [], lit [], 0, 0, 0, lit [], false, ()) (fun y => (y.1, y.2.1, y.2.2.1, y.2.2.2.1, y.2.2.2.2.1, y.2.2.2.2.2.1, true, ())) →
          (s[i].1, s[i].2.1, s[i].2.2.1, s[i].2.2.2.1, s[i].2.2.2.2.1, r.2.1, r.2.2.1, r.2.2.2.1, r.2.2.2.2.1, r.2.2.2.2.2.1, ()) = mkB sw s[i] := by
        rintro r rfl
        unfold mkB
        cases swapOf sw s[i].1 <;> rfl
      rw [B45_0_eq, lt_in hi, ge_zero, at_in hi, wrap_next hi (by simp only [big] at hsl; omega)]
      simp only [Bool.and_self, cond_true, Option.bind_some]
      rw [lasts_drop hi] at hb
      by_cases h1 : i + 1 < s.length
      · rw [lt_in h1, ge_zero, at_in h1]
        simp only [Bool.and_self, cond_true, Option.bind_some, beq_bs]
        rw [List.getElem?_eq_getElem h1] at hb
        simp only at hb
        by_cases he : s[i + 1].1 = s[i].1
        · rw [show (bs s[i + 1].1 == bs s[i].1) = true from bs_eq.2 he]
          rw [if_pos he] at hb
          exact ⟨b, rfl, by omega, hb⟩
        · rw [show (bs s[i + 1].1 == bs s[i].1) = false from by rw [← Bool.not_eq_true]; exact fun e => he (bs_eq.1 e), cond_false, h66, Option.bind_some]
          rw [if_neg he] at hb
          rw [hmk _ rfl, e2]
          refine ⟨b ++ [mkB sw s[i]], rfl, by simp; omega, ?_⟩
          rw [hb]; simp
      · rw [show decide (((i + 1 : Nat) : Int) < Int.ofNat s.length) = false by simp; omega, cond_false, h66, Option.bind_some]
        rw [List.getElem?_eq_none (by omega)] at hb
        rw [hmk _ rfl, e2]
        refine ⟨b ++ [mkB sw s[i]], rfl, by simp; omega, ?_⟩
        rw [hb, List.drop_eq_nil_of_le (by omega)]; simp [lasts]) (by
      rintro b ⟨hbl, hb⟩
      rw [B45_0_eq, lt_out]
      rfl) 0 [] (by omega) ⟨Nat.le_refl _, by simp⟩
  rw [show (Int.ofNat 0 : Int) = ((0 : Nat) : Int) from rfl, h1, Option.bind_some]
  obtain ⟨h3, h4⟩ := h2
  rw [List.drop_length] at h4
  simp only [lasts, List.map_nil, List.append_nil] at h4
  simp only
  rw [F67_is x (by omega), h4]
  rfl
end
end Go.Vx.Z
/-! List, Find: what they tell. -/
namespace Go.Vx
open Go
set_option linter.unusedVariables false
theorem cmpR_le (a b : Req) (h : cmpR b a < 0 → False) : cmpT (bs a.1) (bs b.1) ≤ 0 := by
  have h1 : ¬ cmpR b a < 0 := h
  have h2 := lin_cmpT.anti (bs a.1) (bs b.1)
  by_cases h0 : cmpT (bs b.1) (bs a.1) = 0
  · omega
  · have : cmpR b a = cmpT (bs b.1) (bs a.1) := by
      unfold cmpR reqKey orC
      simp only
      rw [if_neg h0]
    omega
theorem cmpR_same (a b : Req) (h : cmpR b a < 0 → False) (he : b.1 = a.1) : cmpV a.2 b.2 ≤ 0 := by
  have h1 : ¬ cmpR b a < 0 := h
  have : cmpR b a = cmpV b.2 a.2 := by
    unfold cmpR reqKey orC
    simp only
    rw [if_pos (by rw [he]; exact lin_cmpT.self _)]
  have h2 := lin_cmpV.anti a.2 b.2
  omega
abbrev Asc (s : List Req) : Prop := s.Pairwise fun a b => cmpR b a < 0 → False
theorem lasts_sub : ∀ (s : List Req) (r : Req), r ∈ lasts s → r ∈ s
  | [], r, h => h
  | [x], r, h => h
  | x :: y :: l, r, h => by
    simp only [lasts] at h
    split at h
    · exact List.mem_cons_of_mem _ (lasts_sub (y :: l) r h)
    · rcases List.mem_cons.1 h with h | h
      · rw [h]; simp
      · exact List.mem_cons_of_mem _ (lasts_sub (y :: l) r h)
theorem lasts_great : ∀ (s : List Req), Asc s → ∀ r ∈ s, ∃ q ∈ lasts s, q.1 = r.1 ∧ cmpV r.2 q.2 ≤ 0
  | [], _, r, h => by simp at h
  | [x], _, r, h => by
    rw [List.mem_singleton.1 h]
    exact ⟨x, by simp [lasts], rfl, by rw [lin_cmpV.self]; decide⟩
  | x :: y :: l, hs, r, h => by
    have hs' : Asc (y :: l) := (List.pairwise_cons.1 hs).2
    have hxy := (List.pairwise_cons.1 hs).1
    have ih := lasts_great (y :: l) hs'
    simp only [lasts]
    rcases List.mem_cons.1 h with rfl | h
    · split
      · rename_i he
        obtain ⟨q, h1, h2, h3⟩ := ih y (by simp)
        have hq : q ∈ y :: l := lasts_sub _ _ h1
        exact ⟨q, h1, h2.trans he, cmpR_same r q (hxy q hq) (h2.trans he)⟩
      · exact ⟨r, by simp, rfl, by rw [lin_cmpV.self]; decide⟩
    · obtain ⟨q, h1, h2, h3⟩ := ih r h
      split
      · exact ⟨q, h1, h2, h3⟩
      · exact ⟨q, List.mem_cons_of_mem _ h1, h2, h3⟩
theorem lasts_asc : ∀ (s : List Req), Asc s → (lasts s).Pairwise fun a b => cmpT (bs a.1) (bs b.1) = -1
  | [], _ => .nil
  | [x], _ => by simp [lasts]
  | x :: y :: l, hs => by
    have hs' : Asc (y :: l) := (List.pairwise_cons.1 hs).2
    have hxy := (List.pairwise_cons.1 hs).1
    have ih := lasts_asc (y :: l) hs'
    simp only [lasts]
    split
    · exact ih
    · rename_i hne
      rw [List.pairwise_cons]
      refine ⟨fun q hq => ?_, ih⟩
      have hq' := lasts_sub _ _ hq
      have hle := cmpR_le x q (hxy q hq')
      have hr := lin_cmpT.rng (bs x.1) (bs q.1)
      by_cases h0 : cmpT (bs x.1) (bs q.1) = 0
      · exfalso
        have e1 := (lin_cmpT.eq0 _ _).1 h0
        have hxy1 := cmpR_le x y (hxy y (by simp))
        have hyq : cmpT (bs y.1) (bs q.1) ≤ 0 := by
          rcases List.mem_cons.1 hq' with rfl | h
          · rw [lin_cmpT.self]; decide
          · exact cmpR_le y q ((List.pairwise_cons.1 hs').1 q h)
        have h2 := lin_cmpT.anti (bs x.1) (bs y.1)
        rw [← e1] at hyq
        have : cmpT (bs x.1) (bs y.1) = 0 := by omega
        exact hne (bs_inj ((lin_cmpT.eq0 _ _).1 this)).symm
      · omega
theorem lasts_one {s : List Req} (hs : Asc s) {a b : Req} (ha : a ∈ lasts s) (hb : b ∈ lasts s) (h : a.1 = b.1) : a = b := by
  have hp := lasts_asc s hs
  rw [List.pairwise_iff_getElem] at hp
  obtain ⟨i, hi, rfl⟩ := List.getElem_of_mem ha
  obtain ⟨j, hj, rfl⟩ := List.getElem_of_mem hb
  have key : ∀ i j (hi : i < (lasts s).length) (hj : j < (lasts s).length), i < j → (lasts s)[i].1 = (lasts s)[j].1 → False := by
    intro i j hi hj hij he
    have := hp i j hi hj hij
    rw [he, lin_cmpT.self] at this
    cases this
  rcases Nat.lt_trichotomy i j with h1 | h1 | h1
  · exact (key i j hi hj h1 h).elim
  · subst h1; rfl
  · exact (key j i hj hi h1 h.symm).elim
/-- What List tells of a queue. -/
def builtOf (sw : List Swp) (out : List Req) : List Blt := (lasts (sortBy cmpR out)).map (mkB sw)
def findOf (l : List Blt) (p : ByteArray) : Option Blt := l.find? fun y => bs y.1 == bs p
/-- A module is found just where some version of it came up: then the greatest. -/
theorem find_built (sw : List Swp) (out : List Req) (p : ByteArray) : (findOf (builtOf sw out) p = none ∧ ∀ r ∈ out, r.1 ≠ p) ∨
    ∃ r ∈ out, r.1 = p ∧ findOf (builtOf sw out) p = some (mkB sw r) ∧ ∀ q ∈ out, q.1 = p → cmpV q.2 r.2 ≤ 0 := by
  have hs := sortBy_sorted out
  have hp := Z.sortBy_perm out
  cases hf : findOf (builtOf sw out) p with
  | none =>
    refine .inl ⟨rfl, fun r hr he => ?_⟩
    obtain ⟨q, h1, h2, _⟩ := lasts_great _ hs r (hp.mem_iff.2 hr)
    have := List.find?_eq_none.1 hf (mkB sw q) (List.mem_map.2 ⟨q, h1, rfl⟩)
    exact this (bs_eq.2 (h2.trans he))
  | some b =>
    have h1 := List.mem_of_find?_eq_some hf
    have h2 := List.find?_some hf
    obtain ⟨r, h3, rfl⟩ := List.mem_map.1 h1
    have hrp : r.1 = p := bs_eq.1 h2
    refine .inr ⟨r, hp.mem_iff.1 (lasts_sub _ _ h3), hrp, rfl, fun q hq he => ?_⟩
    obtain ⟨q', h4, h5, h6⟩ := lasts_great _ hs q (hp.mem_iff.2 hq)
    have := lasts_one hs h4 h3 (h5.trans (he.trans hrp.symm))
    rw [this] at h6
    exact h6
end Go.Vx
namespace Go.Vx.Z
open Go Go.Vx
set_option linter.unusedVariables false
set_option maxRecDepth 100000
section
variable (md : ByteArray) (rq ex : List Req) (sw : List Swp) (w : List Mod) (rv : List Rev)
theorem F20_is (l : List Blt) (p : ByteArray) (h : l.length ≤ big) : F20 (l, p, ()) =
    some ((findOf l p).elim (lit [], 0, 0, 0, lit [], lit [], 0, 0, 0, lit [], false, ()) fun y => (y.1, y.2.1, y.2.2.1, y.2.2.2.1, y.2.2.2.2.1, y.2.2.2.2.2.1, y.2.2.2.2.2.2.1, y.2.2.2.2.2.2.2.1, y.2.2.2.2.2.2.2.2.1, y.2.2.2.2.2.2.2.2.2.1, true, ())) := by
  rw [F20_eq]
  rw [show (Int.ofNat 0 : Int) = ((0 : Nat) : Int) from rfl, loop_find (B := B20_0) l (fun i => (p, l, Int.ofNat l.length, (i : Int), lit [], ((0 : Nat) : Int), ((0 : Nat) : Int), ((0 : Nat) : Int), lit [], lit [], ((0 : Nat) : Int), ((0 : Nat) : Int), ((0 : Nat) : Int), lit [], ())) (fun y => bs y.1 == bs p)
    (fun y => .inl (true, y.1, y.2.1, y.2.2.1, y.2.2.2.1, y.2.2.2.2.1, y.2.2.2.2.2.1, y.2.2.2.2.2.2.1, y.2.2.2.2.2.2.2.1, y.2.2.2.2.2.2.2.2.1, y.2.2.2.2.2.2.2.2.2.1, ())) (.inr (lit [], ((0 : Nat) : Int), ((0 : Nat) : Int), ((0 : Nat) : Int), lit [], lit [], ((0 : Nat) : Int), ((0 : Nat) : Int), ((0 : Nat) : Int), lit [], ())) ?_ ?_]
  · unfold findOf
    cases l.find? fun y => bs y.1 == bs p <;> rfl
  · intro i hi
    rw [B20_0_eq, lt_in hi, ge_zero, at_in hi, wrap_next hi (by simp only [big] at h; omega)]
    simp only [cond_true, Option.bind_some, beq_bs]
    cases bs l[i].1 == bs p <;> rfl
  · rw [B20_0_eq, lt_out]; rfl
theorem reach_ok (h : okS ex sw w) (hrq : ∀ r ∈ rq, okR r = true) : ∀ r, Reach md ex sw w rq r → okR r = true := by
  intro r hr
  induction hr with
  | base hr => exact allOf_ok md ex sw w h rq hrq _ hr
  | @step r a _ ha ih =>
    unfold asksOf at ha
    split at ha
    · simp at ha
    · rename_i y hy
      split at ha
      · have hc : ∀ (l : List Req) (x : Req), x ∈ compactOf l → x ∈ l := by
          intro l
          induction l with
          | nil => intro x hx; exact hx
          | cons z l ihl =>
            intro x hx
            cases l with
            | nil => exact hx
            | cons z' l =>
              simp only [compactOf] at hx
              split at hx
              · exact List.mem_cons_of_mem _ (ihl x hx)
              · rcases List.mem_cons.1 hx with hx | hx
                · rw [hx]; simp
                · exact List.mem_cons_of_mem _ (ihl x hx)
        have := hc _ _ ha
        rw [(sortBy_perm _).mem_iff] at this
        exact allOf_ok md ex sw w h _ (rel_ok ex sw w h hy).2 _ this
      · simp at ha
/-- List: what comes up, built; or the error. -/
theorem list_ok (h : okS ex sw w) (hrq : ∀ r ∈ rq, okR r = true) (hrl : rq.length ≤ big) (U : List Req) (M : Nat) (hU : ∀ r, Reach md ex sw w rq r → r ∈ U) (hM : ∀ r, (asksOf md ex sw w r).2.length ≤ M) (hb : (U.length + 1) * (M + 1) + rq.length ≤ big) :
    ∃ (e : Int) (l : List Blt), F19 (w, rv, md, rq, ex, sw, ()) = some (l, e, ()) ∧ l.length ≤ big ∧
      ((e = 0 ∧ (allOf md ex sw w rq).1 = 0 ∧ ∃ out : List Req, l = builtOf sw out ∧ out.Nodup ∧ (∀ r, r ∈ out ↔ Reach md ex sw w rq r) ∧ ∀ r ∈ out, (asksOf md ex sw w r).1 = 0) ∨
       (e ≠ 0 ∧ l = [] ∧ ((allOf md ex sw w rq).1 = e ∨ ∃ r, Reach md ex sw w rq r ∧ (asksOf md ex sw w r).1 = e))) := by
  obtain ⟨e, out, h1, h2⟩ := closed_ok md rq ex sw w rv h hrq hrl U M hU hM hb
  rw [F19_eq, F43_eq, Option.bind_some]
  simp only
  rw [h1, Option.bind_some]
  rcases h2 with ⟨rfl, h3, h4, h5, h6⟩ | ⟨h3, rfl, h4⟩
  · have hol : out.length ≤ U.length := nodup_length h4 fun r hr => hU r ((h5 r).1 hr)
    have hexp : (U.length + 1) * (M + 1) = U.length * M + U.length + M + 1 := by rw [Nat.add_mul, Nat.mul_add, Nat.mul_one, Nat.one_mul]; omega
    have hlen : (builtOf sw out).length ≤ big := by
      have hl : ∀ s : List Req, (lasts s).length ≤ s.length := by
        intro s
        induction s with
        | nil => exact Nat.le_refl _
        | cons x s ih =>
          cases s with
          | nil => exact Nat.le_refl _
          | cons y s => simp only [lasts]; split <;> simp at ih ⊢ <;> omega
      unfold builtOf
      rw [List.length_map]
      have := hl (sortBy cmpR out)
      rw [(sortBy_perm out).length_eq] at this
      omega
    refine ⟨0, builtOf sw out, ?_, hlen, .inl ⟨rfl, h3, out, rfl, h4, h5, h6⟩⟩
    show (bif !((0 : Int) == Int.ofNat 0) then _ else _) = _
    rw [show (!((0 : Int) == Int.ofNat 0)) = false from rfl, cond_false]
    rw [F45_is md rq ex sw w rv out (fun r hr => reach_ok md rq ex sw w h hrq r ((h5 r).1 hr)) (by omega) h.hsw]
    rfl
  · have hb' : (!e == Int.ofNat 0) = true := by
      rw [Bool.not_eq_true', ← Bool.not_eq_true]
      exact fun h => h3 (by simpa using h)
    refine ⟨e, [], ?_, by simp [big], .inr ⟨h3, rfl, h4⟩⟩
    show (bif !(e == Int.ofNat 0) then _ else _) = _
    rw [hb']
    rfl
end
end Go.Vx.Z
/-! Bounds of what may come up. -/
namespace Go.Vx
open Go
set_option linter.unusedVariables false
theorem compactOf_sub : ∀ (l : List Req) (x : Req), x ∈ compactOf l → x ∈ l
  | [], x, hx => hx
  | [z], x, hx => hx
  | z :: z' :: l, x, hx => by
    simp only [compactOf] at hx
    split at hx
    · exact List.mem_cons_of_mem _ (compactOf_sub (z' :: l) x hx)
    · rcases List.mem_cons.1 hx with hx | hx
      · rw [hx]; simp
      · exact List.mem_cons_of_mem _ (compactOf_sub (z' :: l) x hx)
theorem compactOf_all : ∀ (l : List Req) (x : Req), x ∈ l → x ∈ compactOf l
  | [], x, hx => hx
  | [z], x, hx => hx
  | z :: z' :: l, x, hx => by
    simp only [compactOf]
    rcases List.mem_cons.1 hx with rfl | hx
    · split
      · rename_i he
        exact compactOf_all (z' :: l) x (by rw [he]; simp)
      · simp
    · split
      · exact compactOf_all (z' :: l) x hx
      · exact List.mem_cons_of_mem _ (compactOf_all (z' :: l) x hx)
theorem compactOf_len : ∀ (l : List Req), (compactOf l).length ≤ l.length
  | [] => Nat.le_refl _
  | [z] => Nat.le_refl _
  | z :: z' :: l => by
    have := compactOf_len (z' :: l)
    simp only [compactOf]
    split
    · simp at this ⊢; omega
    · simp at this ⊢; omega
end Go.Vx
namespace Go.Vx.Z
open Go Go.Vx
set_option linter.unusedVariables false
section
variable (md : ByteArray) (rq ex : List Req) (sw : List Swp) (w : List Mod)
theorem relOf_mem {p : ByteArray} {v : Ver} {y : Rel} (hy : relOf w p v = some y) : ∃ m ∈ w, y ∈ m.2.1 := by
  have h1 : y ∈ relsOf w p := List.mem_of_find?_eq_some hy
  unfold relsOf at h1
  cases hm : modOf w p with
  | none => rw [hm] at h1; simp at h1
  | some m => rw [hm] at h1; exact ⟨m, modOf_mem hm, h1⟩
theorem asksOf_len (M : Nat) (h : ∀ m ∈ w, ∀ y ∈ m.2.1, y.reqs.length ≤ M) (r : Req) : (asksOf md ex sw w r).2.length ≤ M := by
  unfold asksOf
  split
  · simp
  · rename_i y hy
    obtain ⟨m, h1, h2⟩ := relOf_mem w hy
    split
    · refine Nat.le_trans (compactOf_len _) ?_
      rw [(sortBy_perm _).length_eq]
      exact Nat.le_trans (allOf_len md ex sw w _) (h m h1 y h2)
    · simp
theorem asksOf_mem {r q : Req} : q ∈ (asksOf md ex sw w r).2 → ∃ y, relOf w (standsFor sw r).1 (standsFor sw r).2 = some y ∧ ∃ r' ∈ y.reqs, (saidOf md ex sw w r').2 = some q := by
  unfold asksOf
  split
  · intro h; simp at h
  · rename_i y hy
    split
    · intro h
      have := compactOf_sub _ _ h
      rw [(sortBy_perm _).mem_iff] at this
      exact ⟨y, hy, allOf_mem md ex sw w _ _ this⟩
    · intro h; simp at h
theorem said_may {r q : Req} (hr : r ∈ rq ++ worldReqs w) (h : (saidOf md ex sw w r).2 = some q) : q ∈ mayCome w rq := by
  unfold mayCome
  rw [List.mem_flatMap]
  refine ⟨r, hr, ?_⟩
  obtain ⟨h1, h2 | h2⟩ := saidOf_path md ex sw w r q h
  · rw [h2]; simp
  · refine List.mem_cons_of_mem _ (List.mem_map.2 ⟨q.2, h2, ?_⟩)
    rw [← h1]
theorem reach_may : ∀ r, Reach md ex sw w rq r → r ∈ mayCome w rq := by
  intro r hr
  cases hr with
  | base hr =>
    obtain ⟨r', h1, h2⟩ := allOf_mem md ex sw w _ _ hr
    exact said_may md rq ex sw w (List.mem_append_left _ h1) h2
  | step _ ha =>
    obtain ⟨y, hy, r', h1, h2⟩ := asksOf_mem md ex sw w ha
    obtain ⟨m, h3, h4⟩ := relOf_mem w hy
    refine said_may md rq ex sw w (List.mem_append_right _ ?_) h2
    unfold worldReqs
    rw [List.mem_flatMap]
    exact ⟨m, h3, List.mem_flatMap.2 ⟨y, h4, h1⟩⟩
theorem flat_len {α β : Type} (f : α → List β) (n : Nat) : ∀ (l : List α), (∀ x ∈ l, (f x).length ≤ n) → (l.flatMap f).length ≤ l.length * n
  | [], _ => by simp
  | x :: l, h => by
    rw [List.flatMap_cons, List.length_append, List.length_cons, Nat.add_mul, Nat.one_mul]
    have h1 := h x (by simp)
    have h2 := flat_len f n l fun y hy => h y (List.mem_cons_of_mem _ hy)
    omega
/-- A world of so many modules, releases, Requires. -/
structure Small (w : List Mod) : Prop where
  mods : w.length ≤ 10
  rels : ∀ m ∈ w, m.2.1.length ≤ 10
  reqs : ∀ m ∈ w, ∀ y ∈ m.2.1, y.reqs.length ≤ 10
  ver : ∀ m ∈ w, ∀ y ∈ m.2.1, okV y.v = true
  req : ∀ m ∈ w, ∀ y ∈ m.2.1, ∀ q ∈ y.reqs, okR q = true
theorem may_len (h : Small w) (hr : rq.length ≤ 1000) : (mayCome w rq).length ≤ 22000 := by
  have h1 : (worldReqs w).length ≤ 1000 := by
    unfold worldReqs
    refine Nat.le_trans (flat_len _ 100 w fun m hm => Nat.le_trans (flat_len _ 10 m.2.1 (h.reqs m hm)) ?_) ?_
    · have := h.rels m hm; omega
    · have := h.mods; omega
  have h2 : ∀ p, (versOf w p).length ≤ 10 := by
    intro p
    unfold versOf relsOf
    cases hm : modOf w p with
    | none => simp
    | some m => simp only [Option.elim_some, List.length_map]; exact h.rels m (modOf_mem hm)
  unfold mayCome
  refine Nat.le_trans (flat_len _ 11 _ fun r _ => ?_) ?_
  · have := h2 r.1
    simp; omega
  · rw [List.length_append]; omega
theorem small_ok (h : Small w) (he : ex.length ≤ 1000) (hs : sw.length ≤ 1000) : okS ex sw w := by
  refine ⟨by simp only [big]; omega, by simp only [big]; omega, ⟨by have := h.mods; simp only [big]; omega, fun m hm => ⟨by have := h.rels m hm; simp only [big]; omega, fun r hr => by have := h.reqs m hm r hr; simp only [big]; omega⟩⟩, h.ver, h.req⟩
/-- List, of a small world. -/
theorem list_small (rv : List Rev) (h : Small w) (he : ex.length ≤ 1000) (hs : sw.length ≤ 1000) (hr : rq.length ≤ 1000) (hrq : ∀ r ∈ rq, okR r = true) :
    ∃ (e : Int) (l : List Blt), F19 (w, rv, md, rq, ex, sw, ()) = some (l, e, ()) ∧ l.length ≤ big ∧
      ((e = 0 ∧ (allOf md ex sw w rq).1 = 0 ∧ ∃ out : List Req, l = builtOf sw out ∧ out.Nodup ∧ (∀ r, r ∈ out ↔ Reach md ex sw w rq r) ∧ ∀ r ∈ out, (asksOf md ex sw w r).1 = 0) ∨
       (e ≠ 0 ∧ l = [] ∧ ((allOf md ex sw w rq).1 = e ∨ ∃ r, Reach md ex sw w rq r ∧ (asksOf md ex sw w r).1 = e))) := by
  refine list_ok md rq ex sw w rv (small_ok ex sw w h he hs) hrq (by simp only [big]; omega) (mayCome w rq) 10 (reach_may md rq ex sw w) (asksOf_len md ex sw w 10 h.reqs) ?_
  have := may_len rq w h hr
  simp only [big]
  omega
end
end Go.Vx.Z
/-! The chapter's example: known. -/
namespace Go.Vx.Z
open Go Go.Vx
set_option linter.unusedVariables false
set_option maxRecDepth 100000
def kA : Req := (lit [97], 1, 0, 0, lit [], ())
def kB : Req := (lit [98], 1, 0, 0, lit [], ())
def kC : Req := (lit [98], 1, 1, 0, lit [], ())
def kW : List Mod := [(lit [97], [(1, 0, 0, lit [], [kC], lit [], lit [], ())], ()), (lit [98], [(1, 0, 0, lit [], [], lit [], lit [], ()), (1, 1, 0, lit [], [], lit [], lit [], ())], ())]
theorem kW_small : Small kW := by
  have hm : ∀ m ∈ kW, m = kW[0] ∨ m = kW[1] := by intro m hm; simpa [kW] using hm
  refine ⟨by simp [kW], fun m h => ?_, fun m h y hy => ?_, fun m h y hy => ?_, fun m h y hy q hq => ?_⟩
  · rcases hm m h with rfl | rfl <;> simp [kW]
  · rcases hm m h with rfl | rfl <;> (simp [kW] at hy; rcases hy with rfl | rfl) <;> simp [Rel.reqs]
  · rcases hm m h with rfl | rfl <;> (simp [kW] at hy; rcases hy with rfl | rfl) <;> rfl
  · rcases hm m h with rfl | rfl <;> (simp [kW] at hy; rcases hy with rfl | rfl) <;> simp [Rel.reqs] at hq <;> subst hq <;> rfl
theorem k_all : allOf (lit [109]) [] [] kW [kA, kB] = (0, [kA, kB]) := by kernel_rfl
theorem k_A : asksOf (lit [109]) [] [] kW kA = (0, [kC]) := by kernel_rfl
theorem k_B : asksOf (lit [109]) [] [] kW kB = (0, []) := by kernel_rfl
theorem k_C : asksOf (lit [109]) [] [] kW kC = (0, []) := by kernel_rfl
theorem k_lt : cmpV kC.2 kB.2 = 1 := by kernel_rfl
theorem k_none (r : Req) : ¬ Reach (lit [109]) [] [] kW [] r := by
  intro h
  induction h with
  | base hr => simp [allOf] at hr
  | step _ _ ih => exact ih
theorem k_reach (r : Req) : Reach (lit [109]) [] [] kW [kA, kB] r ↔ r ∈ [kA, kB, kC] := by
  constructor
  · intro h
    induction h with
    | base hr => rw [k_all] at hr; simp at hr ⊢; rcases hr with h | h <;> simp [h]
    | step _ ha ih =>
      simp only [List.mem_cons, List.not_mem_nil, or_false] at ih ⊢
      rcases ih with rfl | rfl | rfl
      · rw [k_A] at ha; simp at ha; exact .inr (.inr ha)
      · rw [k_B] at ha; simp at ha
      · rw [k_C] at ha; simp at ha
  · have hA : Reach (lit [109]) [] [] kW [kA, kB] kA := .base (by rw [k_all]; simp)
    have hB : Reach (lit [109]) [] [] kW [kA, kB] kB := .base (by rw [k_all]; simp)
    have hC : Reach (lit [109]) [] [] kW [kA, kB] kC := .step hA (by rw [k_A]; simp)
    intro h
    simp only [List.mem_cons, List.not_mem_nil, or_false] at h
    rcases h with rfl | rfl | rfl
    · exact hA
    · exact hB
    · exact hC
theorem k_len (out : List Req) (hout : ∀ r, r ∈ out ↔ r ∈ [kA, kB, kC]) : (builtOf [] out).length = 2 ∧ findOf (builtOf [] out) (lit [98]) = some (mkB [] kC) := by
  have hs := sortBy_sorted out
  have hp := sortBy_perm out
  have hAB : kA.1 ≠ kB.1 := fun e => by have := congrArg bs e; simp [kA, kB, bs_lit] at this
  have hAC : kA.1 ≠ kC.1 := fun e => by have := congrArg bs e; simp [kA, kC, bs_lit] at this
  have hin : ∀ r ∈ lasts (sortBy cmpR out), r ∈ [kA, kB, kC] := fun r hr => (hout r).1 (hp.mem_iff.1 (lasts_sub _ _ hr))
  have hgr : ∀ r ∈ [kA, kB, kC], ∃ q ∈ lasts (sortBy cmpR out), q.1 = r.1 ∧ cmpV r.2 q.2 ≤ 0 := fun r hr => lasts_great _ hs r (hp.mem_iff.2 ((hout r).2 hr))
  have hA : kA ∈ lasts (sortBy cmpR out) := by
    obtain ⟨q, h1, h2, _⟩ := hgr kA (by simp)
    have h3 := hin q h1
    simp only [List.mem_cons, List.not_mem_nil, or_false] at h3
    rcases h3 with rfl | rfl | rfl
    · exact h1
    · exact absurd h2.symm hAB
    · exact absurd h2.symm hAC
  have hC : kC ∈ lasts (sortBy cmpR out) := by
    obtain ⟨q, h1, h2, h4⟩ := hgr kC (by simp)
    have h3 := hin q h1
    simp only [List.mem_cons, List.not_mem_nil, or_false] at h3
    rcases h3 with rfl | rfl | rfl
    · exact absurd h2 hAC
    · rw [k_lt] at h4; exact absurd h4 (by decide)
    · exact h1
  have hB : kB ∉ lasts (sortBy cmpR out) := fun h => by
    have := lasts_one hs h hC rfl
    have h2 := congrArg (fun r : Req => r.2.2.1) this
    exact absurd h2 (by decide)
  have hnd : (lasts (sortBy cmpR out)).Nodup := by
    refine (lasts_asc _ hs).imp fun {a b} h e => ?_
    rw [e, lin_cmpT.self] at h
    cases h
  have hle : (lasts (sortBy cmpR out)).length ≤ [kA, kC].length := nodup_length hnd fun r hr => by
    have h3 := hin r hr
    simp only [List.mem_cons, List.not_mem_nil, or_false] at h3 ⊢
    rcases h3 with rfl | rfl | rfl
    · exact .inl rfl
    · exact absurd hr hB
    · exact .inr rfl
  have hge : [kA, kC].length ≤ (lasts (sortBy cmpR out)).length := nodup_length (by
    rw [List.nodup_cons]
    exact ⟨by simp; exact fun e => hAC (by rw [e]), by simp⟩) fun r hr => by
    simp only [List.mem_cons, List.not_mem_nil, or_false] at hr
    rcases hr with rfl | rfl
    · exact hA
    · exact hC
  refine ⟨by unfold builtOf; rw [List.length_map]; exact Nat.le_antisymm hle hge, ?_⟩
  rcases find_built [] out (lit [98]) with ⟨_, h⟩ | ⟨r, h1, h2, h3, h4⟩
  · exact absurd rfl (h kC ((hout kC).2 (by simp)))
  · have h5 := (hout r).1 h1
    simp only [List.mem_cons, List.not_mem_nil, or_false] at h5
    rcases h5 with rfl | rfl | rfl
    · exact absurd h2 hAC
    · have := h4 kC ((hout kC).2 (by simp)) rfl
      rw [k_lt] at this
      exact absurd this (by decide)
    · exact h3
theorem F13_is : F13 () = some (true, ()) := by
  refine F13_eq.trans ?_
  obtain ⟨e1, l1, h1, _, h2⟩ := list_small (lit [109]) [] [] [] kW [] kW_small (by simp) (by simp) (by simp) (by simp)
  obtain ⟨e2, l2, h3, h4, h5⟩ := list_small (lit [109]) [kA, kB] [] [] kW [] kW_small (by simp) (by simp) (by simp) (by
    intro r hr
    simp only [List.mem_cons, List.not_mem_nil, or_false] at hr
    rcases hr with rfl | rfl <;> rfl)
  have g1 : e1 = 0 ∧ l1 = [] := by
    rcases h2 with ⟨rfl, _, out, rfl, _, h6, _⟩ | ⟨h6, rfl, h7 | ⟨r, h7, _⟩⟩
    · refine ⟨rfl, ?_⟩
      cases out with
      | nil => rfl
      | cons r out => exact absurd ((h6 r).1 (by simp)) (k_none r)
    · exact absurd h7.symm h6
    · exact absurd h7 (k_none r)
  have g2 : e2 = 0 ∧ l2.length = 2 ∧ findOf l2 (lit [98]) = some (mkB [] kC) := by
    rcases h5 with ⟨rfl, _, out, rfl, _, h6, _⟩ | ⟨h6, rfl, h7 | ⟨r, h7, h8⟩⟩
    · exact ⟨rfl, k_len out fun r => (h6 r).trans (k_reach r)⟩
    · rw [k_all] at h7; exact absurd h7.symm h6
    · have := (k_reach r).1 h7
      simp only [List.mem_cons, List.not_mem_nil, or_false] at this
      rcases this with rfl | rfl | rfl
      · rw [k_A] at h8; exact absurd h8.symm h6
      · rw [k_B] at h8; exact absurd h8.symm h6
      · rw [k_C] at h8; exact absurd h8.symm h6
  obtain ⟨rfl, rfl⟩ := g1
  obtain ⟨rfl, g3, g4⟩ := g2
  show Option.bind (F19 (kW, [], lit [109], [], [], [], ())) (fun r => Option.bind (F19 (kW, [], lit [109], [kA, kB], [], [], ())) _) = _
  rw [h1, Option.bind_some, h3, Option.bind_some]
  have hl : (!Int.ofNat l2.length == Int.ofNat 2) = false := by rw [g3]; rfl
  simp only [hl, cond_false]
  rw [F20_is l2 (lit [98]) h4, g4, Option.bind_some, bs_toList]
  rfl
end Go.Vx.Z
/-! The harness: numbers within, paths, majors. -/
namespace Go.Vx
open Go
set_option linter.unusedVariables false
theorem loop_iter_eq {P E : Type} {B : P → Option (P ⊕ E)} (n : Nat) {p : P} (h : (iter B n p).isSome = true) : loop B p = iter B n p := by
  cases hi : iter B n p with
  | none => rw [hi] at h; cases h
  | some e => exact loop_of_iter hi
theorem within_eq (x : Int) (n : Nat) (hn : 0 < n) (hm : n ≤ 4611686018427387904) : ∃ k : Nat, k < n ∧ (bif decide (Int.tmod x (n : Int) < Int.ofNat 0) then some (IntKind.wrap IntKind.i64 (Int.tmod x (n : Int) + (n : Int)), ()) else some (Int.tmod x (n : Int), ())) = some ((k : Int), ()) := by
  have h1 : Int.tmod x n < n := Int.tmod_lt_of_pos x (by omega)
  have h2 : -(n : Int) < Int.tmod x n := by
    have := Int.lt_tmod_of_pos x (show (0 : Int) < n by omega)
    exact this
  cases hc : decide (Int.tmod x (n : Int) < Int.ofNat 0) with
  | true =>
    have hc' : Int.tmod x n < 0 := of_decide_eq_true hc
    refine ⟨(Int.tmod x n + n).toNat, by omega, ?_⟩
    rw [cond_true, wrap64 (by omega) (by omega)]
    congr 2
    omega
  | false =>
    have hc' : ¬ Int.tmod x n < 0 := of_decide_eq_false hc
    refine ⟨(Int.tmod x n).toNat, by omega, ?_⟩
    rw [cond_false]
    congr 2
    omega
end Go.Vx
namespace Go.Vx.Z
open Go Go.Vx
set_option linter.unusedVariables false
theorem F16_is (x : Int) (n : Nat) (hn : 0 < n) (hm : n ≤ 4611686018427387904) : ∃ k : Nat, k < n ∧ F16 (x, (n : Int), ()) = some ((k : Int), ()) := by
  rw [F16_eq]
  have : (!decide ((n : Int) = Int.ofNat 0)) = true := by simp; omega
  rw [this, cond_true]
  exact within_eq x n hn hm
theorem F33_is (x : Int) (n : Nat) (hn : 0 < n) (hm : n ≤ 4611686018427387904) : ∃ k : Nat, k < n ∧ F33 (x, (n : Int), ()) = some ((k : Int), ()) := by
  rw [F33_eq]
  have : (!decide ((n : Int) = Int.ofNat 0)) = true := by simp; omega
  rw [this, cond_true]
  exact within_eq x n hn hm
def majors : List Int := [1, 1, 1, 2, 1, 3, 4]
def pathsL : List ByteArray := [lit [97], lit [97, 47, 115, 117, 98], lit [98, 47, 99], lit [98, 47, 99, 47, 118, 50], lit [100], lit [101, 47, 118, 51], lit [101, 47, 118, 52]]
theorem F35_is (i : Nat) (h : i < 7) : F35 ((i : Int), ()) = some (majors.getD i 0, ()) := by
  rw [F35_eq, ge_zero, cond_true]
  match i, h with
  | 0, _ | 1, _ | 2, _ | 3, _ | 4, _ | 5, _ | 6, _ => rfl
theorem F34_is : F34 () = some (pathsL, ()) := F34_eq
end Go.Vx.Z
/-! The harness: ids, pseudo versions. -/
namespace Go.Vx.Z
open Go Go.Vx
set_option linter.unusedVariables false
set_option maxRecDepth 100000
def idK (i : Nat) : ByteArray := (lit ([48, 49, 50, 51, 52, 53, 54, 55, 56, 57, 97, 98, 99, 100, 101, 102].extract i (i + 1)) ++ lit [57]) ++ lit (([48, 48, 49, 49, 50, 50, 51, 51, 52, 52, 53, 53, 54, 54, 55, 55, 56, 56, 57, 57] : List UInt8).take (10 + (i + 9) % 9))
theorem F38_9 (i : Nat) (h : i < 7) : F38 ((i : Int), Int.ofNat 9, ()) = some (idK i, ()) := by
  rw [F38_eq]
  match i, h with
  | 0, _ | 1, _ | 2, _ | 3, _ | 4, _ | 5, _ | 6, _ => (show _ = _); kernel_rfl
theorem F79_k (i : Nat) (h : i < 7) : F79 (idK i, ()) = some (true, ()) := by
  rw [F79_eq]
  match i, h with
  | 0, _ | 1, _ | 2, _ | 3, _ | 4, _ | 5, _ | 6, _ => (rw [loop_iter_eq 50 (by kernel_rfl)]); (show _ = _); kernel_rfl
def stampK (i : Nat) : ByteArray := lit [50, 48, 50, 48, 48, 49, 48, 49, 48, 48, 48, 48, 48, UInt8.ofNat (48 + i)]
theorem F37_k (i : Nat) (h : i < 7) : F37 (IntKind.wrap IntKind.i64 (Int.ofNat 20200101000000 + (i : Int)), ()) = some (stampK i, ()) := by
  match i, h with
  | 0, _ | 1, _ | 2, _ | 3, _ | 4, _ | 5, _ | 6, _ => (show _ = _); kernel_rfl
end Go.Vx.Z
/-! The harness: pseudo versions are right. -/
namespace Go.Vx.Z
open Go Go.Vx
set_option linter.unusedVariables false
set_option maxRecDepth 100000
def wordK (i : Nat) : ByteArray := stampK i ++ lit [45] ++ (idK i).extract 0 12
def preK (i : Nat) : ByteArray := lit [48, 46] ++ wordK i
theorem F47_k (i : Nat) (h : i < 7) : F47 (preK i, ()) = some ([lit [48], wordK i], ()) := by
  rw [F47_eq]
  match i, h with
  | 0, _ | 1, _ | 2, _ | 3, _ | 4, _ | 5, _ | 6, _ => (rw [loop_iter_eq 50 (by kernel_rfl)]); (show _ = _); kernel_rfl
theorem F68_0 : F68 (lit [48], ()) = some (true, ()) := by
  rw [F68_eq]
  rw [loop_iter_eq 50 (by kernel_rfl)]
  kernel_rfl
theorem F68_k (i : Nat) (h : i < 7) : F68 (wordK i, ()) = some (false, ()) := by
  rw [F68_eq]
  match i, h with
  | 0, _ | 1, _ | 2, _ | 3, _ | 4, _ | 5, _ | 6, _ => (rw [loop_iter_eq 50 (by kernel_rfl)]); (show _ = _); kernel_rfl
theorem F108_0 : F108 (lit [48], ()) = some (true, ()) := by
  rw [F108_eq, F68_0, bs_toList]
  rw [loop_iter_eq 50 (by kernel_rfl)]
  kernel_rfl
theorem F108_k (i : Nat) (h : i < 7) : F108 (wordK i, ()) = some (true, ()) := by
  rw [F108_eq, F68_k i h, bs_toList]
  match i, h with
  | 0, _ | 1, _ | 2, _ | 3, _ | 4, _ | 5, _ | 6, _ => (rw [loop_iter_eq 50 (by kernel_rfl)]); (show _ = _); kernel_rfl
end Go.Vx.Z
/-! The harness: pseudo versions. -/
namespace Go.Vx.Z
open Go Go.Vx
set_option linter.unusedVariables false
set_option maxRecDepth 100000
set_option maxHeartbeats 1000000
def pseudoK (i : Nat) : Ver := (majors.getD i 0, 1, 1, preK i, ())
theorem B80_k (i : Nat) (h : i < 7) : loop B80_0 ([lit [48], wordK i], Int.ofNat 0, ()) = some (.inr ()) := by
  refine loop_step (q := ([lit [48], wordK i], ((1 : Nat) : Int), ())) ?_ (loop_step (q := ([lit [48], wordK i], ((2 : Nat) : Int), ())) ?_ (loop_end ?_))
  · rw [B80_0_eq]
    show (Option.bind (F108 (lit [48], ())) _) = _
    rw [F108_0]
    rfl
  · rw [B80_0_eq]
    show (Option.bind (F108 (wordK i, ())) _) = _
    rw [F108_k i h]
    rfl
  · rw [B80_0_eq]
    rfl
theorem pre_size (i : Nat) (h : i < 7) : (preK i).size = 29 := by
  match i, h with
  | 0, _ | 1, _ | 2, _ | 3, _ | 4, _ | 5, _ | 6, _ => rfl
theorem F80_k (i : Nat) (h : i < 7) : F80 (majors.getD i 0, 1, 1, preK i, ()) = some (true, ()) := by
  rw [F80_eq, F47_k i h, bs_toList]
  have hb : (bs (preK i) == []) = false := by
    cases hc : bs (preK i) with
    | nil => have := bs_size (preK i); rw [pre_size i h, hc] at this; cases this
    | cons a l => rfl
  rw [hb, pre_size i h]
  simp only [Option.bind_some, B80_k i h, cond_false]
  match i, h with
  | 0, _ | 1, _ | 2, _ | 3, _ | 4, _ | 5, _ | 6, _ => rfl
theorem F36_is (i : Nat) (h : i < 7) : F36 ((i : Int), ()) = some ((pseudoK i).1, (pseudoK i).2.1, (pseudoK i).2.2.1, (pseudoK i).2.2.2.1, ()) := by
  rw [F36_eq, F35_is i h, Option.bind_some, F38_9 i h, Option.bind_some]
  simp only
  rw [F60_eq]
  have hw : IntKind.wrap IntKind.i64 (Int.ofNat 20200101000000 + (i : Int)) = 20200101000000 + (i : Int) := wrap64 (by simp; omega) (by simp; omega)
  have h1 : decide (IntKind.wrap IntKind.i64 (Int.ofNat 20200101000000 + (i : Int)) < Int.ofNat 0) = false := by rw [hw]; simp; omega
  have h2 : decide (IntKind.wrap IntKind.i64 (Int.ofNat 20200101000000 + (i : Int)) > Int.ofNat 99999999999999) = false := by rw [hw]; simp; omega
  rw [h1, h2, cond_false, cond_false, F79_k i h, Option.bind_some]
  simp only [Bool.not_true, cond_false]
  rw [F37_k i h, Option.bind_some]
  have hs : (stampK i).size = 14 := rfl
  have hl : ∀ x3, loop B60_0 (true, idK i, stampK i, x3, Int.ofNat 1, Int.ofNat 0, lit [], Int.ofNat 0, Int.ofNat 0, Int.ofNat 0, lit [], ()) = some (true, idK i, stampK i, x3, Int.ofNat 1, Int.ofNat 0, lit [], Int.ofNat 0, Int.ofNat 0, Int.ofNat 0, lit [], ()) := fun x3 => loop_end (by rw [B60_0_eq, hs]; rfl)
  simp only
  rw [hl, Option.bind_some]
  simp only
  have e0 : (ByteArray.toList (lit []) == []) = true := by rw [bs_toList]; rfl
  have hid : decide (Int.ofNat 12 ≤ Int.ofNat (idK i).size) = true := by
    match i, h with
    | 0, _ | 1, _ | 2, _ | 3, _ | 4, _ | 5, _ | 6, _ => rfl
  have hf1 : fitsS (stampK i) (lit [45]) = true := rfl
  have hx : ((idK i).extract 0 12).size = 12 := by
    match i, h with
    | 0, _ | 1, _ | 2, _ | 3, _ | 4, _ | 5, _ | 6, _ => rfl
  have hf2 : fitsS (stampK i ++ lit [45]) ((idK i).extract 0 12) = true := by
    unfold fitsS
    rw [hx]
    rfl
  have hf3 : fitsS (lit [48, 46]) (wordK i) = true := by
    have e : (lit [48, 46]).size + (wordK i).size = 29 := by rw [← ByteArray.size_append]; exact pre_size i h
    unfold fitsS
    rw [e]
    rfl
  rw [hf1, hid, hf2]
  simp only [Bool.not_true, cond_true, cond_false, e0]
  have hf3' : fitsS (lit [48, 46]) (stampK i ++ lit [45] ++ (idK i).extract 0 12) = true := hf3
  rw [hf3', cond_true]
  have h80 := F80_k i h
  have h80' : F80 (majors.getD i 0, Int.ofNat 1, IntKind.wrap IntKind.i64 (Int.ofNat 0 + Int.ofNat 1), lit [48, 46] ++ (stampK i ++ lit [45] ++ (idK i).extract 0 12), ()) = some (true, ()) := h80
  rw [h80', Option.bind_some]
  rfl
end Go.Vx.Z
/-! The harness: the world that is made. -/
namespace Go.Vx.Z
open Go Go.Vx
set_option linter.unusedVariables false
set_option maxRecDepth 100000
def rc1 : ByteArray := lit [114, 99, 46, 49]
/-- The versions of a module that others ask for. -/
def versK (j : Nat) : List Ver := [(majors.getD j 0, 0, 0, lit [], ()), (majors.getD j 0, 1, 0, lit [], ()), pseudoK j, (majors.getD j 0, 2, 0, rc1, ()), (majors.getD j 0, 2, 0, lit [], ())]
def GoodReq (n : Nat) (r : Req) : Prop := ∃ j, j < n ∧ r.1 = pathsL.getD j (lit []) ∧ r.2 ∈ versK j
theorem reqs_made (ns : List Int) (wh : Bool) (n i : Nat) (hn : n ≤ 7) (p : ByteArray) (a k : Int) (l : List Ver) (mp : ByteArray) (v1 v2 v3 : Int) (v4 s1 s2 : ByteArray) (ms : List Mod) (rs : List Rev) (rl : List Rel) (at_ : Nat) (hat : at_ ≤ 1000000) :
    ∃ (at' : Nat) (reqs : List Req), loop B14_0 (ns, wh, (n : Int), (at_ : Int), (i : Int), p, a, k, Int.ofNat 0, l, mp, v1, v2, v3, v4, s1, s2, ms, rs, rl, [], ()) = some (ns, wh, (n : Int), (at' : Int), (i : Int), p, a, k, l, mp, v1, v2, v3, v4, s1, s2, ms, rs, rl, reqs, ()) ∧
      at' ≤ at_ + n ∧ reqs.length ≤ n ∧ ∀ r ∈ reqs, GoodReq n r := by
  cases hns0 : ns with
  | nil =>
    refine ⟨at_, [], loop_end ?_, by omega, by simp, by simp⟩
    rw [B14_0_eq]
    cases decide (Int.ofNat 0 < (n : Int)) <;> rfl
  | cons z zs =>
  rw [← hns0]
  have hpos : 0 < ns.length := by rw [hns0]; simp
  obtain ⟨⟨at', reqs⟩, h1, h2⟩ := loop_upto (B := B14_0) n (fun j (b : Nat × List Req) => (ns, wh, (n : Int), (b.1 : Int), (i : Int), p, a, k, (j : Int), l, mp, v1, v2, v3, v4, s1, s2, ms, rs, rl, b.2, ()))
    (fun b => (ns, wh, (n : Int), (b.1 : Int), (i : Int), p, a, k, l, mp, v1, v2, v3, v4, s1, s2, ms, rs, rl, b.2, ())) (fun j b => b.1 ≤ at_ + j ∧ b.2.length ≤ j ∧ ∀ r ∈ b.2, GoodReq n r) (by
      rintro j hj ⟨at1, reqs⟩ ⟨q1, q2, q3⟩
      simp only at q1 q2 q3 ⊢
      rw [B14_0_eq]
      have e1 : decide ((j : Int) < (n : Int)) = true := by simp; omega
      have e2 : decide (Int.ofNat ns.length > Int.ofNat 0) = true := by simp; omega
      have e3 : (!decide (Int.ofNat ns.length = Int.ofNat 0)) = true := by
        rw [Bool.not_eq_true', decide_eq_false_iff_not]
        intro h
        have := Int.ofNat.inj h
        omega
      have hmod : Int.tmod (at1 : Int) (Int.ofNat ns.length) = ((at1 % ns.length : Nat) : Int) := by
        rw [Int.ofNat_eq_natCast, Int.tmod_eq_emod_of_nonneg (by omega)]; rfl
      have hidx : at1 % ns.length < ns.length := Nat.mod_lt _ hpos
      rw [e1, e2, e3, hmod, ge_zero, at_in hidx]
      simp only [cond_true, Option.bind_some]
      obtain ⟨kk, hk1, hk2⟩ := F33_is (IntKind.wrap IntKind.i64 (ns[at1 % ns.length] + (at1 : Int))) 1073741824 (by omega) (by omega)
      have hk2' : F33 (IntKind.wrap IntKind.i64 (ns[at1 % ns.length] + (at1 : Int)), Int.ofNat 1073741824, ()) = some ((kk : Int), ()) := hk2
      rw [hk2', Option.bind_some]
      rw [wrap_next (show at1 < 2000000 by omega) (by omega), wrap_next hj (by omega)]
      have hskip : ∃ b' : Nat × List Req, some (Sum.inl (ns, wh, (n : Int), ((at1 + 1 : Nat) : Int), (i : Int), p, a, k, ((j + 1 : Nat) : Int), l, mp, v1, v2, v3, v4, s1, s2, ms, rs, rl, reqs, ()) : _ ⊕ OutsD os14_0) = some (Sum.inl (ns, wh, (n : Int), (b'.1 : Int), (i : Int), p, a, k, ((j + 1 : Nat) : Int), l, mp, v1, v2, v3, v4, s1, s2, ms, rs, rl, b'.2, ())) ∧ b'.1 ≤ at_ + (j + 1) ∧ b'.2.length ≤ j + 1 ∧ ∀ r ∈ b'.2, GoodReq n r :=
        ⟨(at1 + 1, reqs), rfl, by simp only; omega, by simp only; omega, q3⟩
      cases hji : ((j : Int) == (i : Int)) with
      | true => exact hskip
      | false =>
        simp only [cond_false]
        cases h5 : decide (Int.tmod (kk : Int) (Int.ofNat 5) > Int.ofNat 1) with
        | true => exact hskip
        | false =>
          simp only [cond_false]
          rw [F35_is j (by omega), Option.bind_some, F36_is j (by omega), Option.bind_some]
          have htd : Int.tdiv (kk : Int) (Int.ofNat 5) = ((kk / 5 : Nat) : Int) := by
            rw [Int.ofNat_eq_natCast, Int.tdiv_eq_ediv_of_nonneg (by omega)]; rfl
          have hw : IntKind.wrap IntKind.i64 (Int.tdiv (kk : Int) (Int.ofNat 5)) = ((kk / 5 : Nat) : Int) := by
            rw [htd]; exact wrap64 (by omega) (by omega)
          have htm : Int.tmod ((kk / 5 : Nat) : Int) (Int.ofNat 5) = ((kk / 5 % 5 : Nat) : Int) := by
            rw [Int.ofNat_eq_natCast, Int.tmod_eq_emod_of_nonneg (by omega)]; rfl
          rw [hw, htm, ge_zero, cond_true]
          have h55 : kk / 5 % 5 < (versK j).length := Nat.mod_lt _ (by decide)
          show ∃ b', (Option.bind (versK j)[Int.toNat ((kk / 5 % 5 : Nat) : Int)]? _) = _ ∧ _
          rw [at_in h55, Option.bind_some, F34_is, Option.bind_some, ge_zero, cond_true]
          have hjp : j < pathsL.length := by show j < 7; omega
          simp only
          rw [at_in hjp, Option.bind_some]
          have e2 : ∀ z : Req, decide (reqs.length + [z].length ≤ 2513169434916) = true := by
            intro z; rw [decide_eq_true_eq]; simp only [List.length_cons, List.length_nil]; omega
          rw [e2]
          refine ⟨(at1 + 1, reqs ++ [(pathsL[j], (versK j)[kk / 5 % 5])]), rfl, by simp only; omega, by simp; omega, fun r hr => ?_⟩
          rcases List.mem_append.1 hr with hr | hr
          · exact q3 r hr
          · rw [List.mem_singleton.1 hr]
            exact ⟨j, hj, by simp [List.getD, hjp], List.getElem_mem h55⟩) (by
      rintro ⟨at1, reqs⟩ ⟨q1, q2, q3⟩
      rw [B14_0_eq]
      have : decide ((n : Int) < (n : Int)) = false := by simp
      rw [this]
      rfl) 0 (at_, []) (by omega) ⟨by simp, by simp, by simp⟩
  exact ⟨at', reqs, h1, h2.1, h2.2.1, h2.2.2⟩
end Go.Vx.Z
/-! The harness: releases of the world that is made. -/
namespace Go.Vx.Z
open Go Go.Vx
set_option linter.unusedVariables false
set_option maxRecDepth 100000
theorem fitsS_small {x y : ByteArray} (hx : x.size ≤ 1000) (hy : y.size ≤ 1000) : fitsS x y = true := by
  unfold fitsS
  exact Nat.ble_eq_true_of_le (by omega)
noncomputable def dig70 (m : Nat) : Bool := match F37 ((m : Int), ()) with
  | some (s, _) => Nat.ble s.size 100
  | none => false
theorem F37_all : (List.range 70).all dig70 = true := by kernel_rfl
theorem F37_small (m : Nat) (h : m < 70) : ∃ s : ByteArray, F37 ((m : Int), ()) = some (s, ()) ∧ s.size ≤ 100 := by
  have := List.all_eq_true.1 F37_all m (List.mem_range.2 h)
  unfold dig70 at this
  split at this
  · rename_i s u hs
    exact ⟨s, hs, Nat.le_of_ble_eq_true this⟩
  · cases this
theorem rels_made (ns : List Int) (n i : Nat) (hn : n ≤ 7) (hi : i < 7) (p : ByteArray) (a : Int) (l : List Ver) (hl : l.length ≤ 6) (mp : ByteArray) (ms : List Mod) (rs : List Rev) (at_ : Nat) (hat : at_ ≤ 900000) :
    ∃ (at' : Nat) (rels : List Rel), loop B14_1 (ns, true, (n : Int), (at_ : Int), (i : Int), p, a, Int.ofNat 0, l, mp, ms, rs, [], ()) = some (ns, true, (n : Int), (at' : Int), (i : Int), p, a, mp, ms, rs, rels, ()) ∧
      at' ≤ at_ + n * l.length ∧ rels.map Rel.v = l ∧ ∀ y ∈ rels, y.reqs.length ≤ n ∧ ∀ r ∈ y.reqs, GoodReq n r := by
  obtain ⟨⟨at', rels⟩, h1, h2⟩ := loop_upto (B := B14_1) l.length (fun k (b : Nat × List Rel) => (ns, true, (n : Int), (b.1 : Int), (i : Int), p, a, (k : Int), l, mp, ms, rs, b.2, ()))
    (fun b => (ns, true, (n : Int), (b.1 : Int), (i : Int), p, a, mp, ms, rs, b.2, ())) (fun k b => b.1 ≤ at_ + n * k ∧ b.2.map Rel.v = l.take k ∧ ∀ y ∈ b.2, y.reqs.length ≤ n ∧ ∀ r ∈ y.reqs, GoodReq n r) (by
      rintro k hk ⟨at1, rels⟩ ⟨q1, q2, q3⟩
      simp only at q1 q2 q3 ⊢
      have hnk : n * k ≤ 7 * 6 := Nat.mul_le_mul hn (by omega)
      have hrl : rels.length ≤ 6 := by
        have := congrArg List.length q2
        simp at this; omega
      rw [B14_1_eq, lt_in hk, ge_zero, at_in hk]
      simp only [cond_true, Option.bind_some]
      have hw : IntKind.wrap IntKind.i64 (IntKind.wrap IntKind.i64 (Int.ofNat 10 * (i : Int)) + (k : Int)) = ((10 * i + k : Nat) : Int) := by
        rw [show Int.ofNat 10 * (i : Int) = ((10 * i : Nat) : Int) by simp]
        rw [wrap64 (x := ((10 * i : Nat) : Int)) (by omega) (by omega), wrap64 (by omega) (by omega)]
        omega
      obtain ⟨s, hs1, hs2⟩ := F37_small (10 * i + k) (by omega)
      rw [hw, hs1, Option.bind_some]
      have f1 : fitsS (lit [104]) s = true := fitsS_small (by decide) (by omega)
      have f2 : fitsS (lit [104] ++ s) (lit [61]) = true := fitsS_small (by rw [ByteArray.size_append]; have : (lit [104]).size = 1 := rfl; omega) (by decide)
      have f3 : fitsS (lit [109]) s = true := fitsS_small (by decide) (by omega)
      simp only
      rw [f1, f2]
      simp only [cond_true, Option.bind_some]
      rw [f3, cond_true]
      obtain ⟨at2, reqs, g1, g2, g3, g4⟩ := reqs_made ns true n i hn p a (k : Int) l mp l[k].1 l[k].2.1 l[k].2.2.1 l[k].2.2.2.1 (lit [104] ++ s ++ lit [61]) (lit [109] ++ s) ms rs rels at1 (by omega)
      rw [g1, Option.bind_some]
      simp only [Bool.not_true, cond_false]
      have e2 : ∀ z : Rel, decide (rels.length + [z].length ≤ 1466015503701) = true := by
        intro z; rw [decide_eq_true_eq]; simp only [List.length_cons, List.length_nil]; omega
      rw [e2, cond_true, wrap_next hk (by omega)]
      refine ⟨(at2, rels ++ [(l[k].1, l[k].2.1, l[k].2.2.1, l[k].2.2.2.1, reqs, lit [104] ++ s ++ lit [61], lit [109] ++ s, ())]), rfl, ?_, ?_, ?_⟩
      · simp only [Nat.mul_add, Nat.mul_one]; omega
      · simp only [List.map_append, q2, List.map_cons, List.map_nil]
        rw [List.take_succ_eq_append_getElem hk]
        rfl
      · intro y hy
        rcases List.mem_append.1 hy with hy | hy
        · exact q3 y hy
        · rw [List.mem_singleton.1 hy]
          exact ⟨g3, g4⟩) (by
      rintro ⟨at1, rels⟩ ⟨q1, q2, q3⟩
      rw [B14_1_eq, lt_out]
      rfl) 0 (at_, []) (by omega) ⟨by simp, by simp, by simp⟩
  obtain ⟨h3, h4, h5⟩ := h2
  exact ⟨at', rels, h1, h3, by rw [h4, List.take_length], h5⟩
end Go.Vx.Z
/-! The harness: modules of the world that is made. -/
namespace Go.Vx.Z
open Go Go.Vx
set_option linter.unusedVariables false
set_option maxRecDepth 100000
def verL (i : Nat) : List Ver := (if majors.getD i 0 = 1 then [((0 : Int), (5 : Int), (0 : Int), lit [], ())] else []) ++ versK i
def ModOK (n k : Nat) (m : Mod) : Prop := m.1 = pathsL.getD k (lit []) ∧ m.2.1.map Rel.v = verL k ∧ ∀ y ∈ m.2.1, y.reqs.length ≤ n ∧ ∀ r ∈ y.reqs, GoodReq n r
noncomputable def id70 (i : Nat) : Bool := (F38 ((i : Int), Int.ofNat 1, ())).isSome && ((F38 ((i : Int), Int.ofNat 2, ())).isSome && ((F38 ((i : Int), Int.ofNat 3, ())).isSome && ((F38 ((i : Int), Int.ofNat 8, ())).isSome && (F38 ((i : Int), Int.ofNat 9, ())).isSome)))
theorem id_all : (List.range 7).all id70 = true := by kernel_rfl
theorem some_unit {x : Option (ByteArray × Unit)} (h : x.isSome = true) : ∃ s, x = some (s, ()) := by
  cases x with
  | none => cases h
  | some p => exact ⟨p.1, rfl⟩
theorem F38_some (i : Nat) (h : i < 7) : (∃ s, F38 ((i : Int), Int.ofNat 1, ()) = some (s, ())) ∧ (∃ s, F38 ((i : Int), Int.ofNat 2, ()) = some (s, ())) ∧ (∃ s, F38 ((i : Int), Int.ofNat 3, ()) = some (s, ())) ∧ (∃ s, F38 ((i : Int), Int.ofNat 8, ()) = some (s, ())) ∧ (∃ s, F38 ((i : Int), Int.ofNat 9, ()) = some (s, ())) := by
  have := List.all_eq_true.1 id_all i (List.mem_range.2 h)
  unfold id70 at this
  simp only [Bool.and_eq_true] at this
  exact ⟨some_unit this.1, some_unit this.2.1, some_unit this.2.2.1, some_unit this.2.2.2.1, some_unit this.2.2.2.2⟩
theorem verL_len (i : Nat) : (verL i).length ≤ 6 := by
  unfold verL versK
  split <;> simp
theorem mods_step (ns : List Int) (n i : Nat) (hn : n ≤ 7) (hi : i < n) (ms : List Mod) (rs : List Rev) (at_ : Nat) (hat : at_ ≤ 1000) (hml : ms.length ≤ 10) (hrl : rs.length ≤ 1000) :
    ∃ (at' : Nat) (m : Mod) (r5 : List Rev), B14_2 (ns, true, (n : Int), (at_ : Int), (i : Int), ms, rs, ()) = some (.inl (ns, true, (n : Int), (at' : Int), ((i + 1 : Nat) : Int), ms ++ [m], rs ++ r5, ())) ∧ at' ≤ at_ + 42 ∧ ModOK n i m ∧ r5.length = 5 := by
  have hi7 : i < 7 := by omega
  have hip : i < pathsL.length := hi7
  obtain ⟨⟨i1, hi1⟩, ⟨i2, hi2⟩, ⟨i3, hi3⟩, ⟨i8, hi8⟩, ⟨i9, hi9⟩⟩ := F38_some i hi7
  obtain ⟨at', rels, h1, h2, h3, h4⟩ := rels_made ns n i hn hi7 pathsL[i] (majors.getD i 0) (verL i) (verL_len i) pathsL[i] ms rs at_ (by omega)
  have hlim : n * (verL i).length ≤ 7 * 6 := Nat.mul_le_mul hn (verL_len i)
  have e1 : ∀ z : Mod, decide (ms.length + [z].length ≤ 3518437208883) = true := by
    intro z; rw [decide_eq_true_eq]; simp only [List.length_cons, List.length_nil]; omega
  have e2 : ∀ a b c d e : Rev, decide (rs.length + [a, b, c, d, e].length ≤ 1599289640401) = true := by
    intro a b c d e; rw [decide_eq_true_eq]; simp only [List.length_cons, List.length_nil]; omega
  refine ⟨at', (pathsL[i], rels, ()), [(pathsL[i], i1, true, false, majors.getD i 0, Int.ofNat 0, Int.ofNat 0, lit [], Int.ofNat 0, ()), (pathsL[i], i2, true, false, majors.getD i 0, Int.ofNat 1, Int.ofNat 0, lit [], Int.ofNat 0, ()), (pathsL[i], i3, true, false, majors.getD i 0, Int.ofNat 2, Int.ofNat 0, lit [], Int.ofNat 0, ()),
    (pathsL[i], i8, false, false, Int.ofNat 0, Int.ofNat 0, Int.ofNat 0, lit [], IntKind.wrap IntKind.i64 (Int.ofNat 20190101000000 + (i : Int)), ()), (pathsL[i], i9, false, true, majors.getD i 0, Int.ofNat 1, Int.ofNat 0, lit [], IntKind.wrap IntKind.i64 (Int.ofNat 20200101000000 + (i : Int)), ())], ?_, by omega, ⟨by simp [List.getD, hip], h3, h4⟩, rfl⟩
  rw [B14_2_eq]
  have e0 : decide ((i : Int) < (n : Int)) = true := by simp; omega
  rw [e0, cond_true, F34_is, Option.bind_some, ge_zero, cond_true]
  simp only
  rw [at_in hip, Option.bind_some, F35_is i hi7, Option.bind_some, F36_is i hi7, Option.bind_some]
  simp only
  by_cases hm : majors.getD i 0 = 1
  · have hb : (majors.getD i 0 == Int.ofNat 1) = true := by rw [hm]; rfl
    rw [hb, cond_true]
    have e3 : ∀ a b c d e : Ver, decide (1 + [a, b, c, d, e].length ≤ 3518437208883) = true := by intro a b c d e; simp
    rw [e3, cond_true]
    have hv : verL i = [(Int.ofNat 0, Int.ofNat 5, Int.ofNat 0, lit [], ())] ++ versK i := by unfold verL; rw [if_pos hm]; rfl
    rw [hv] at h1
    have h1' := h1
    unfold versK at h1'
    erw [h1', Option.bind_some]
    simp only
    rw [e1, cond_true, hi1, Option.bind_some, hi2, Option.bind_some, hi3, Option.bind_some, hi8, Option.bind_some, hi9, Option.bind_some, e2, cond_true, wrap_next hi (by omega)]
  · have hb : (majors.getD i 0 == Int.ofNat 1) = false := by rw [← Bool.not_eq_true]; exact fun h => hm (by simpa using h)
    rw [hb, cond_false]
    have hv : verL i = versK i := by unfold verL; rw [if_neg hm]; rfl
    rw [hv] at h1
    have h1' := h1
    unfold versK at h1'
    erw [h1', Option.bind_some]
    simp only
    rw [e1, cond_true, hi1, Option.bind_some, hi2, Option.bind_some, hi3, Option.bind_some, hi8, Option.bind_some, hi9, Option.bind_some, e2, cond_true, wrap_next hi (by omega)]
/-- A world, as it is made. -/
structure Made (n : Nat) (w : List Mod) : Prop where
  pos : 0 < n
  le : n ≤ 7
  len : w.length = n
  mods : ∀ k m, w[k]? = some m → ModOK n k m
theorem F14_full (x0 : Int) (ns : List Int) : ∃ (n : Nat) (w : List Mod) (rv : List Rev), F14 (x0, ns, true, ()) = some (w, rv, ()) ∧ Made n w ∧ rv.length ≤ 35 := by
  obtain ⟨k, hk1, hk2⟩ := F33_is x0 7 (by omega) (by omega)
  have hk2' : F33 (x0, Int.ofNat 7, ()) = some ((k : Int), ()) := hk2
  have hw : IntKind.wrap IntKind.i64 (Int.ofNat 1 + (k : Int)) = ((k + 1 : Nat) : Int) := by
    rw [show Int.ofNat 1 + (k : Int) = (k : Int) + 1 by simp; omega]
    exact wrap64s k (by omega)
  obtain ⟨⟨at', w, rv⟩, h1, h2⟩ := loop_upto (B := B14_2) (k + 1) (fun i (b : Nat × List Mod × List Rev) => (ns, true, ((k + 1 : Nat) : Int), (b.1 : Int), (i : Int), b.2.1, b.2.2, ()))
    (fun b => (b.2.1, b.2.2, ())) (fun i b => b.1 ≤ 42 * i ∧ b.2.1.length = i ∧ b.2.2.length = 5 * i ∧ ∀ j m, b.2.1[j]? = some m → ModOK (k + 1) j m) (by
      rintro i hi ⟨at1, ms, rs⟩ ⟨q1, q2, q3, q4⟩
      simp only at q1 q2 q3 q4 ⊢
      obtain ⟨at2, m, r5, g1, g2, g3, g4⟩ := mods_step ns (k + 1) i (by omega) hi ms rs at1 (by omega) (by omega) (by omega)
      refine ⟨(at2, ms ++ [m], rs ++ r5), g1, by simp only; omega, by simp [q2], by simp [q3, g4]; omega, fun j m' hj => ?_⟩
      simp only at hj
      rw [List.getElem?_append] at hj
      split at hj
      · exact q4 j m' hj
      · rename_i hlt
        have : j = i := by
          have := (List.getElem?_eq_some_iff.1 hj).1
          simp at this; omega
        subst this
        rw [q2] at hj
        simp at hj
        rw [← hj]; exact g3) (by
      rintro ⟨at1, ms, rs⟩ ⟨q1, q2, q3, q4⟩
      rw [B14_2_eq]
      have : decide (((k + 1 : Nat) : Int) < ((k + 1 : Nat) : Int)) = false := by simp
      rw [this]
      rfl) 0 (0, [], []) (by omega) ⟨by simp, rfl, rfl, by simp⟩
  have h35 : rv.length = 5 * (k + 1) := h2.2.2.1
  refine ⟨k + 1, w, rv, ?_, ⟨by omega, by omega, h2.2.1, h2.2.2.2⟩, by omega⟩
  rw [F14_eq, hk2', Option.bind_some]
  simp only
  rw [hw]
  have h1' : loop B14_2 (ns, true, ((k + 1 : Nat) : Int), Int.ofNat 0, Int.ofNat 0, [], [], ()) = some (w, rv, ()) := h1
  rw [h1', Option.bind_some]
theorem F14_is (x0 : Int) (ns : List Int) : ∃ (n : Nat) (w : List Mod) (rv : List Rev), F14 (x0, ns, true, ()) = some (w, rv, ()) ∧ Made n w := by
  obtain ⟨n, w, rv, h1, h2, _⟩ := F14_full x0 ns
  exact ⟨n, w, rv, h1, h2⟩
theorem pseudo_size {j : Nat} (h : j < 7) : okV (pseudoK j) = true := by
  unfold okV pseudoK
  simp only
  rw [pre_size j h]
  rfl
theorem versK_ok {j : Nat} (h : j < 7) : ∀ v ∈ versK j, okV v = true := by
  intro v hv
  simp only [versK, List.mem_cons, List.not_mem_nil, or_false] at hv
  rcases hv with rfl | rfl | rfl | rfl | rfl
  · rfl
  · rfl
  · exact pseudo_size h
  · rfl
  · rfl
theorem verL_ok {j : Nat} (h : j < 7) : ∀ v ∈ verL j, okV v = true := by
  intro v hv
  unfold verL at hv
  rcases List.mem_append.1 hv with hv | hv
  · split at hv
    · rw [List.mem_singleton.1 hv]; rfl
    · simp at hv
  · exact versK_ok h v hv
theorem path_size (j : Nat) : (pathsL.getD j (lit [])).size ≤ 1000 := by
  match j with
  | 0 | 1 | 2 | 3 | 4 | 5 | 6 => decide
  | j + 7 => simp [pathsL]; decide
theorem made_small {n : Nat} {w : List Mod} (h : Made n w) : Small w := by
  have hmod : ∀ m ∈ w, ∃ k, k < 7 ∧ ModOK n k m := fun m hm => by
    obtain ⟨k, hk, he⟩ := List.getElem_of_mem hm
    refine ⟨k, by have := h.len; have := h.le; omega, h.mods k m ?_⟩
    rw [List.getElem?_eq_getElem hk, he]
  have hn := h.le
  refine ⟨by rw [h.len]; omega, fun m hm => ?_, fun m hm y hy => ?_, fun m hm y hy => ?_, fun m hm y hy q hq => ?_⟩
  · obtain ⟨k, hk, h1, h2, h3⟩ := hmod m hm
    have := congrArg List.length h2
    rw [List.length_map] at this
    have := verL_len k
    omega
  · obtain ⟨k, hk, h1, h2, h3⟩ := hmod m hm
    have := (h3 y hy).1
    omega
  · obtain ⟨k, hk, h1, h2, h3⟩ := hmod m hm
    exact verL_ok hk _ (by rw [← h2]; exact List.mem_map.2 ⟨y, hy, rfl⟩)
  · obtain ⟨k, hk, h1, h2, h3⟩ := hmod m hm
    obtain ⟨j, g1, g2, g3⟩ := (h3 y hy).2 q hq
    unfold okR
    rw [g2, versK_ok (by omega) _ g3]
    have := path_size j
    simp only [Bool.and_true, decide_eq_true_eq]
    omega
end Go.Vx.Z
