import Derived.Test.YtmhlgndhcfdlbaaGreatDoorV1
import GoSem.Extern.BytealgCount
import GoSem.Extern.BytealgCompare
import GoSem.Extern.BytealgIndexByte
import Derived.KernelRfl
import Derived.Test.YtmhlgndhcfdlbaaGreatDoorProg
import Derived.Shelf.SlSortCmp.WholeK
import Derived.RangeFuncGives
import Derived.RangeFuncLeaves
import Derived.TacticsInMore
import Derived.ControlIn
import Derived.IntWalk
set_option linter.unusedSimpArgs false
/-! Entries of three functions that have no body: any program. -/
namespace Go.Vx
open Go Go.RowKit
set_option linter.unusedVariables false
set_option linter.unusedSimpArgs false
/-- A text of these bytes. -/
def lit (l : List UInt8) : ByteArray := ⟨⟨l⟩⟩
def xCompare (a b : ByteArray) : Int := Extern.BytealgCompare.cmp a b
def xCount (s : ByteArray) (c : Int) : Int := s.foldl (fun (n : Int) x => if x == c.toNat.toUInt8 then n + 1 else n) ((0 : Nat) : Int)
def xIndexByte (s : ByteArray) (c : Int) : Int := match (List.range s.size).find? fun i => s[i]! == c.toNat.toUInt8 with
  | some i => (i : Int)
  | none => -1
@[reducible] def shCompare : Shape := ⟨[(0, .one (.d .str)), (1, .one (.d .str))], []⟩
@[reducible] def shByte : Shape := ⟨[(0, .one (.d .str)), (1, .one (.d (.int .u8)))], []⟩
@[reducible] def outInt : Shape := ⟨[(0, .one (.d (.int .i64)))], []⟩
theorem run_ext {P : Program} {f : FuncId} {fn : Func} {e : Array Value → Sem Value} (hf : P.funcs[f]? = some fn) (hname : (fn.name == "runtime.NumGoroutine") = false) (hb : fn.body.isNone = true) (hn : (Extern.findNext fn).isNone = true) (he : Extern.find fn = some e)
    {args : Array Value} {w : World} {v : Value} (hv : (e args).run P w = .ok v w) : (callFunc f args).run P w = .ok (.value v) w := by
  have hn' : Extern.findNext fn = none := by simpa using hn
  have hname' : fn.name ≠ "runtime.NumGoroutine" := by simpa using hname
  have hb' : fn.body = none := by simpa using hb
  simp [callFunc, hf, hname', hb', hn', he, mark, hv, Sem.run]
theorem two_args {args : Array Value} (h : args.size = 2) {a b : Value} (h0 : args.getD 0 undef = a) (h1 : args.getD 1 undef = b) : args = #[a, b] := by
  subst h0 h1
  apply Array.ext
  · simpa using h
  · intro i h1 h2
    simp at h2
    match i, h2 with
    | 0, _ => simp [Array.getD, h1]
    | 1, _ => simp [Array.getD, h1]
theorem ext_int {P : Program} {f : FuncId} {sh : Shape} {F : sh.D → Option outInt.D} (hm : sh.mem = [])
    (h : ∀ p r, F p = some r → ∀ gh w (args : Array Value), args.size = sh.env.length → (∀ i, RepV gh (embed sh p).blk w ((embed sh p).get i) (args.getD i undef)) → (callFunc f args).run P w = .ok (.value (.int .i64 r.1)) w) : FEOK P ⟨f, sh, outInt, F⟩ := by
  intro p r hF gh w args hsz hH hargs
  refine .inl ⟨_, w, h p r hF gh w args hsz hargs, gh, ?_, ?_, rfl⟩
  · have : (embed sh p).blk = (embed outInt r).blk := by
      funext i
      obtain ⟨e, m⟩ := sh
      simp only at hm
      subst hm
      rfl
    rw [← this]
    exact hH
  · have : (embed sh p).blk = (embed outInt r).blk := by
      funext i
      obtain ⟨e, m⟩ := sh
      simp only at hm
      subst hm
      rfl
    show Tr gh (embed sh p).blk w gh (embed outInt r).blk w
    rw [this]
    exact Tr.refl _ _ _
def FCompare : shCompare.D → Option outInt.D := fun p => some (xCompare p.1 p.2.1, ())
def FCount : shByte.D → Option outInt.D := fun p => some (xCount p.1 p.2.1, ())
def FIndexByte : shByte.D → Option outInt.D := fun p => some (xIndexByte p.1 p.2.1, ())
section
variable {P : Program} {f : FuncId} {fn : Func}
theorem ok_compare (hf : P.funcs[f]? = some fn) (hname : (fn.name == "runtime.NumGoroutine") = false) (hb : fn.body.isNone = true) (hn : (Extern.findNext fn).isNone = true) (he : Extern.find fn = some Extern.BytealgCompare.compare) : FEOK P ⟨f, shCompare, outInt, FCompare⟩ := by
  refine ext_int rfl fun p r hF gh w args hsz hargs => ?_
  injection hF with hF
  subst hF
  have h0 : args.getD 0 undef = .string p.1 := hargs 0
  have h1 : args.getD 1 undef = .string p.2.1 := hargs 1
  rw [two_args hsz h0 h1]
  exact run_ext hf hname hb hn he rfl
theorem ok_count (hf : P.funcs[f]? = some fn) (hname : (fn.name == "runtime.NumGoroutine") = false) (hb : fn.body.isNone = true) (hn : (Extern.findNext fn).isNone = true) (he : Extern.find fn = some Extern.BytealgCount.count) : FEOK P ⟨f, shByte, outInt, FCount⟩ := by
  refine ext_int rfl fun p r hF gh w args hsz hargs => ?_
  injection hF with hF
  subst hF
  have h0 : args.getD 0 undef = .string p.1 := hargs 0
  have h1 : args.getD 1 undef = .int .u8 p.2.1 := hargs 1
  rw [two_args hsz h0 h1]
  exact run_ext hf hname hb hn he rfl
theorem ok_indexByte (hf : P.funcs[f]? = some fn) (hname : (fn.name == "runtime.NumGoroutine") = false) (hb : fn.body.isNone = true) (hn : (Extern.findNext fn).isNone = true) (he : Extern.find fn = some Extern.BytealgIndexByte.indexByte) : FEOK P ⟨f, shByte, outInt, FIndexByte⟩ := by
  refine ext_int rfl fun p r hF gh w args hsz hargs => ?_
  injection hF with hF
  subst hF
  have h0 : args.getD 0 undef = .string p.1 := hargs 0
  have h1 : args.getD 1 undef = .int .u8 p.2.1 := hargs 1
  rw [two_args hsz h0 h1]
  refine run_ext hf hname hb hn he ?_
  show Sem.run P (match (List.range p.1.size).find? fun i => p.1[i]! == p.2.1.toNat.toUInt8 with | some i => pure (goInt i) | none => pure (goInt (-1))) w = .ok (.int .i64 (xIndexByte p.1 p.2.1)) w
  unfold xIndexByte
  split
  · rename_i i hi; simp [hi, goInt]
  · rename_i hi; simp [hi, goInt]
end
end Go.Vx
namespace Go.Vx.Z
open Go Go.Vx Go.Proofs
set_option linter.unusedVariables false
set_option maxRecDepth 1000000
set_option maxHeartbeats 4000000
abbrev r0 : Ty := .cons .str <| .cons (.int .i64) <| .cons (.int .i64) <| .cons (.int .i64) <| .cons .str <| .unit
abbrev r1 : Ty := .cons (.int .i64) <| .cons (.int .i64) <| .cons (.int .i64) <| .cons .str <| .cons (.list r0) <| .cons .str <| .cons .str <| .unit
abbrev r2 : Ty := .cons .str <| .cons (.list r1) <| .unit
abbrev r3 : Ty := .cons .str <| .cons .str <| .cons .bool <| .cons .bool <| .cons (.int .i64) <| .cons (.int .i64) <| .cons (.int .i64) <| .cons .str <| .cons (.int .i64) <| .unit
abbrev r4 : Ty := .cons .str <| .cons .str <| .cons (.int .i64) <| .cons (.int .i64) <| .cons (.int .i64) <| .cons .str <| .unit
abbrev r5 : Ty := .cons (.int .i64) <| .cons (.int .i64) <| .cons (.int .i64) <| .cons .str <| .unit
abbrev r6 : Ty := .cons .str <| .cons (.int .i64) <| .cons (.int .i64) <| .cons (.int .i64) <| .cons .str <| .cons .str <| .cons (.int .i64) <| .cons (.int .i64) <| .cons (.int .i64) <| .cons .str <| .unit
noncomputable def e146 : FE := ⟨146, shByte, outInt, FIndexByte⟩
theorem ok146 : FEOK Tryz.prog e146 := ok_indexByte (fn := Tryz.f146) (by kernel_rfl) (by kernel_rfl) (by kernel_rfl) (by kernel_rfl) (by kernel_rfl)
noncomputable def e139 : FE := ⟨139, shByte, outInt, FCount⟩
theorem ok139 : FEOK Tryz.prog e139 := ok_count (fn := Tryz.f139) (by kernel_rfl) (by kernel_rfl) (by kernel_rfl) (by kernel_rfl) (by kernel_rfl)
noncomputable def e120 : FE := ⟨120, shCompare, outInt, FCompare⟩
theorem ok120 : FEOK Tryz.prog e120 := ok_compare (fn := Tryz.f120) (by kernel_rfl) (by kernel_rfl) (by kernel_rfl) (by kernel_rfl) (by kernel_rfl)
@[reducible] def sh43 : Shape := ⟨[(0, .row [.d (.list r2), .d (.list r3)]), (1, .row [.d .str, .d (.list r0), .d (.list r0), .d (.list r4)])], []⟩
@[reducible] def out43 : Shape := ⟨[(0, .row [.d .str, .d (.list r0), .d (.list r0), .d (.list r4), .d (.list r2), .d (.list r3)])], []⟩
noncomputable def b43 : Code := Tryz.f43.body.getD .skip
noncomputable def cx43 : Cx := ⟨Tryz.prog, [], [], 9, [], []⟩
noncomputable def F43 : sh43.D → Option out43.D := func cx43 Tryz.f43 b43 sh43 out43
noncomputable def e43 : FE := ⟨43, sh43, out43, F43⟩
theorem ok43 : FEOK Tryz.prog e43 := func_ok (cx := cx43) (fn := Tryz.f43) (c := b43) (all_fe (P := Tryz.prog) (l := []) trivial) (by kernel_rfl) (by kernel_rfl) (by kernel_rfl) (by kernel_rfl) (by kernel_rfl) (needs_of (l := []) (by kernel_rfl) trivial)
@[reducible] def sh66 : Shape := ⟨[(0, .row [.d .str, .d (.list r0), .d (.list r0), .d (.list r4), .d (.list r2), .d (.list r3)]), (1, .one (.d .str))], []⟩
@[reducible] def out66 : Shape := ⟨[(0, .row [.d .str, .d .str, .d (.int .i64), .d (.int .i64), .d (.int .i64), .d .str]), (1, .one (.d .bool))], []⟩
noncomputable def b66 : Code := Tryz.f66.body.getD .skip
@[reducible] def sh66_0 : Shape := ⟨[(1, .one (.d .str)), (4, .one (.ptr 200000 0)), (10, .one (.d (.list r4))), (11, .one (.d (.int .i64))), (12, .one (.d (.int .i64)))], [(200000, .box [.d .str, .d .str, .d (.int .i64), .d (.int .i64), .d (.int .i64), .d .str])]⟩
@[reducible] def os66_0 : List (XE × Shape) := [(.ret, ⟨[(4, .one (.ptr 200000 0)), (5, .one (.d .bool))], [(200000, .box [.d .str, .d .str, .d (.int .i64), .d (.int .i64), .d (.int .i64), .d .str])]⟩), (.ex 0, ⟨[(4, .one (.ptr 200000 0))], [(200000, .box [.d .str, .d .str, .d (.int .i64), .d (.int .i64), .d (.int .i64), .d .str])]⟩)]
noncomputable def cx66_0 : Cx := ⟨Tryz.prog, [], [], 23, [], []⟩
noncomputable def B66_0 : sh66_0.D → Option (sh66_0.D ⊕ OutsD os66_0) := round cx66_0 (sub [1, 0, 1, 0, 0] b66) sh66_0 os66_0
noncomputable def ce66_0 : CE := ⟨sh66_0, os66_0, loop B66_0⟩
theorem okc66_0 : CEOK Tryz.prog 23 (.loop (sub [1, 0, 1, 0, 0] b66)) ce66_0 := round_ok (cx := cx66_0) (fun R => step_sound (all_fe (P := Tryz.prog) (l := []) trivial) R) (needs_of (l := []) (by kernel_rfl) trivial) sh66_0 os66_0
noncomputable def cx66 : Cx := ⟨Tryz.prog, [], [], 23, [(4, ce66_0)], []⟩
noncomputable def F66 : sh66.D → Option out66.D := func cx66 Tryz.f66 b66 sh66 out66
noncomputable def e66 : FE := ⟨66, sh66, out66, F66⟩
theorem ok66 : FEOK Tryz.prog e66 := func_ok (cx := cx66) (fn := Tryz.f66) (c := b66) (all_fe (P := Tryz.prog) (l := []) trivial) (by kernel_rfl) (by kernel_rfl) (by kernel_rfl) (by kernel_rfl) (by kernel_rfl) (needs_of (l := [((.loop (sub [1, 0, 1, 0, 0] b66)), ce66_0)]) (by kernel_rfl) ⟨okc66_0, trivial⟩)
@[reducible] def sh56 : Shape := ⟨[(0, .one (.d (.list r0)))], []⟩
@[reducible] def out56 : Shape := ⟨[(0, .one (.own 200000))], [(200000, .lst 43 r0 true)]⟩
noncomputable def b56 : Code := Tryz.f56.body.getD .skip
noncomputable def cx56 : Cx := ⟨Tryz.prog, [], [], 8, [], []⟩
noncomputable def F56 : sh56.D → Option out56.D := func cx56 Tryz.f56 b56 sh56 out56
noncomputable def e56 : FE := ⟨56, sh56, out56, F56⟩
theorem ok56 : FEOK Tryz.prog e56 := func_ok (cx := cx56) (fn := Tryz.f56) (c := b56) (all_fe (P := Tryz.prog) (l := []) trivial) (by kernel_rfl) (by kernel_rfl) (by kernel_rfl) (by kernel_rfl) (by kernel_rfl) (needs_of (l := []) (by kernel_rfl) trivial)
@[reducible] def sh111 : Shape := ⟨[(0, .row [.d (.list r2), .d (.list r3)]), (1, .one (.d .str))], []⟩
@[reducible] def out111 : Shape := ⟨[(0, .row [.d .str, .d (.list r1)]), (1, .one (.d .bool))], []⟩
noncomputable def b111 : Code := Tryz.f111.body.getD .skip
@[reducible] def sh111_0 : Shape := ⟨[(1, .one (.d .str)), (4, .one (.ptr 200000 0)), (10, .one (.d (.list r2))), (11, .one (.d (.int .i64))), (12, .one (.d (.int .i64)))], [(200000, .box [.d .str, .nilS])]⟩
@[reducible] def os111_0 : List (XE × Shape) := [(.ret, ⟨[(4, .one (.ptr 200000 0)), (5, .one (.d .bool))], [(200000, .box [.d .str, .d (.list r1)])]⟩), (.ex 0, ⟨[(4, .one (.ptr 200000 0))], [(200000, .box [.d .str, .nilS])]⟩)]
noncomputable def cx111_0 : Cx := ⟨Tryz.prog, [], [], 23, [], []⟩
noncomputable def B111_0 : sh111_0.D → Option (sh111_0.D ⊕ OutsD os111_0) := round cx111_0 (sub [1, 0, 1, 0, 0] b111) sh111_0 os111_0
noncomputable def ce111_0 : CE := ⟨sh111_0, os111_0, loop B111_0⟩
theorem okc111_0 : CEOK Tryz.prog 23 (.loop (sub [1, 0, 1, 0, 0] b111)) ce111_0 := round_ok (cx := cx111_0) (fun R => step_sound (all_fe (P := Tryz.prog) (l := []) trivial) R) (needs_of (l := []) (by kernel_rfl) trivial) sh111_0 os111_0
noncomputable def cx111 : Cx := ⟨Tryz.prog, [], [], 23, [(4, ce111_0)], []⟩
noncomputable def F111 : sh111.D → Option out111.D := func cx111 Tryz.f111 b111 sh111 out111
noncomputable def e111 : FE := ⟨111, sh111, out111, F111⟩
theorem ok111 : FEOK Tryz.prog e111 := func_ok (cx := cx111) (fn := Tryz.f111) (c := b111) (all_fe (P := Tryz.prog) (l := []) trivial) (by kernel_rfl) (by kernel_rfl) (by kernel_rfl) (by kernel_rfl) (by kernel_rfl) (needs_of (l := [((.loop (sub [1, 0, 1, 0, 0] b111)), ce111_0)]) (by kernel_rfl) ⟨okc111_0, trivial⟩)
@[reducible] def sh86 : Shape := ⟨[(0, .row [.d (.list r2), .d (.list r3)]), (1, .one (.d .str)), (2, .row [.d (.int .i64), .d (.int .i64), .d (.int .i64), .d .str])], []⟩
@[reducible] def out86 : Shape := ⟨[(0, .row [.d (.int .i64), .d (.int .i64), .d (.int .i64), .d .str, .d (.list r0), .d .str, .d .str]), (1, .one (.d .bool))], []⟩
noncomputable def b86 : Code := Tryz.f86.body.getD .skip
@[reducible] def sh86_0 : Shape := ⟨[(5, .one (.ptr 200000 0)), (6, .one (.ptr 200001 0)), (19, .one (.d (.list r1))), (20, .one (.d (.int .i64))), (21, .one (.d (.int .i64)))], [(200000, .box [.d (.int .i64), .d (.int .i64), .d (.int .i64), .d .str]), (200001, .box [.d (.int .i64), .d (.int .i64), .d (.int .i64), .d .str, .nilS, .d .str, .d .str])]⟩
@[reducible] def os86_0 : List (XE × Shape) := [(.ret, ⟨[(6, .one (.ptr 200000 0)), (7, .one (.d .bool))], [(200000, .box [.d (.int .i64), .d (.int .i64), .d (.int .i64), .d .str, .d (.list r0), .d .str, .d .str])]⟩), (.ex 0, ⟨[(6, .one (.ptr 200000 0))], [(200000, .box [.d (.int .i64), .d (.int .i64), .d (.int .i64), .d .str, .nilS, .d .str, .d .str])]⟩)]
noncomputable def cx86_0 : Cx := ⟨Tryz.prog, [e111], [], 32, [], []⟩
noncomputable def B86_0 : sh86_0.D → Option (sh86_0.D ⊕ OutsD os86_0) := round cx86_0 (sub [1, 1, 0, 1, 0, 0] b86) sh86_0 os86_0
noncomputable def ce86_0 : CE := ⟨sh86_0, os86_0, loop B86_0⟩
theorem okc86_0 : CEOK Tryz.prog 32 (.loop (sub [1, 1, 0, 1, 0, 0] b86)) ce86_0 := round_ok (cx := cx86_0) (fun R => step_sound (all_fe (P := Tryz.prog) (l := [e111]) ⟨ok111, trivial⟩) R) (needs_of (l := []) (by kernel_rfl) trivial) sh86_0 os86_0
noncomputable def cx86 : Cx := ⟨Tryz.prog, [e111], [], 32, [(6, ce86_0)], []⟩
noncomputable def F86 : sh86.D → Option out86.D := func cx86 Tryz.f86 b86 sh86 out86
noncomputable def e86 : FE := ⟨86, sh86, out86, F86⟩
theorem ok86 : FEOK Tryz.prog e86 := func_ok (cx := cx86) (fn := Tryz.f86) (c := b86) (all_fe (P := Tryz.prog) (l := [e111]) ⟨ok111, trivial⟩) (by kernel_rfl) (by kernel_rfl) (by kernel_rfl) (by kernel_rfl) (by kernel_rfl) (needs_of (l := [((.loop (sub [1, 1, 0, 1, 0, 0] b86)), ce86_0)]) (by kernel_rfl) ⟨okc86_0, trivial⟩)
@[reducible] def sh69 : Shape := ⟨[(0, .row [.d (.list r2), .d (.list r3)]), (1, .one (.d .str)), (2, .row [.d (.int .i64), .d (.int .i64), .d (.int .i64), .d .str])], []⟩
@[reducible] def out69 : Shape := ⟨[(0, .row [.d (.int .i64), .d (.int .i64), .d (.int .i64), .d .str, .d (.list r0), .d .str, .d .str]), (1, .one (.d .bool))], []⟩
noncomputable def b69 : Code := Tryz.f69.body.getD .skip
noncomputable def cx69 : Cx := ⟨Tryz.prog, [e56, e86], [], 24, [], []⟩
noncomputable def F69 : sh69.D → Option out69.D := func cx69 Tryz.f69 b69 sh69 out69
noncomputable def e69 : FE := ⟨69, sh69, out69, F69⟩
theorem ok69 : FEOK Tryz.prog e69 := func_ok (cx := cx69) (fn := Tryz.f69) (c := b69) (all_fe (P := Tryz.prog) (l := [e56, e86]) ⟨ok56, ok86, trivial⟩) (by kernel_rfl) (by kernel_rfl) (by kernel_rfl) (by kernel_rfl) (by kernel_rfl) (needs_of (l := []) (by kernel_rfl) trivial)
@[reducible] def sh128 : Shape := ⟨[(0, .one (.d (.list r0))), (1, .row [.d .str, .d (.int .i64), .d (.int .i64), .d (.int .i64), .d .str])], []⟩
@[reducible] def out128 : Shape := ⟨[(0, .one (.d (.int .i64)))], []⟩
noncomputable def b128 : Code := Tryz.f128.body.getD .skip
@[reducible] def sh128_0 : Shape := ⟨[(0, .one (.d (.list r0))), (3, .one (.ptr 200000 0)), (7, .one (.d (.int .i64))), (8, .one (.d (.int .i64)))], [(200000, .box [.d .str, .d (.int .i64), .d (.int .i64), .d (.int .i64), .d .str])]⟩
@[reducible] def os128_0 : List (XE × Shape) := [(.ret, ⟨[(4, .one (.d (.int .i64)))], []⟩), (.ex 0, ⟨[], []⟩)]
noncomputable def cx128_0 : Cx := ⟨Tryz.prog, [], [], 19, [], []⟩
noncomputable def B128_0 : sh128_0.D → Option (sh128_0.D ⊕ OutsD os128_0) := round cx128_0 (sub [1, 0, 1, 0, 0] b128) sh128_0 os128_0
noncomputable def ce128_0 : CE := ⟨sh128_0, os128_0, loop B128_0⟩
theorem okc128_0 : CEOK Tryz.prog 19 (.loop (sub [1, 0, 1, 0, 0] b128)) ce128_0 := round_ok (cx := cx128_0) (fun R => step_sound (all_fe (P := Tryz.prog) (l := []) trivial) R) (needs_of (l := []) (by kernel_rfl) trivial) sh128_0 os128_0
noncomputable def cx128 : Cx := ⟨Tryz.prog, [], [], 19, [(4, ce128_0)], []⟩
noncomputable def F128 : sh128.D → Option out128.D := func cx128 Tryz.f128 b128 sh128 out128
noncomputable def e128 : FE := ⟨128, sh128, out128, F128⟩
theorem ok128 : FEOK Tryz.prog e128 := func_ok (cx := cx128) (fn := Tryz.f128) (c := b128) (all_fe (P := Tryz.prog) (l := []) trivial) (by kernel_rfl) (by kernel_rfl) (by kernel_rfl) (by kernel_rfl) (by kernel_rfl) (needs_of (l := [((.loop (sub [1, 0, 1, 0, 0] b128)), ce128_0)]) (by kernel_rfl) ⟨okc128_0, trivial⟩)
@[reducible] def sh112 : Shape := ⟨[(0, .one (.d (.list r0))), (1, .row [.d .str, .d (.int .i64), .d (.int .i64), .d (.int .i64), .d .str])], []⟩
@[reducible] def out112 : Shape := ⟨[(0, .one (.d .bool))], []⟩
noncomputable def b112 : Code := Tryz.f112.body.getD .skip
noncomputable def cx112 : Cx := ⟨Tryz.prog, [e128], [], 9, [], []⟩
noncomputable def F112 : sh112.D → Option out112.D := func cx112 Tryz.f112 b112 sh112 out112
noncomputable def e112 : FE := ⟨112, sh112, out112, F112⟩
theorem ok112 : FEOK Tryz.prog e112 := func_ok (cx := cx112) (fn := Tryz.f112) (c := b112) (all_fe (P := Tryz.prog) (l := [e128]) ⟨ok128, trivial⟩) (by kernel_rfl) (by kernel_rfl) (by kernel_rfl) (by kernel_rfl) (by kernel_rfl) (needs_of (l := []) (by kernel_rfl) trivial)
@[reducible] def sh87 : Shape := ⟨[(0, .row [.d .str, .d (.list r0), .d (.list r0), .d (.list r4), .d (.list r2), .d (.list r3)]), (1, .row [.d .str, .d (.int .i64), .d (.int .i64), .d (.int .i64), .d .str])], []⟩
@[reducible] def out87 : Shape := ⟨[(0, .one (.d .bool))], []⟩
noncomputable def b87 : Code := Tryz.f87.body.getD .skip
noncomputable def cx87 : Cx := ⟨Tryz.prog, [e112], [], 10, [], []⟩
noncomputable def F87 : sh87.D → Option out87.D := func cx87 Tryz.f87 b87 sh87 out87
noncomputable def e87 : FE := ⟨87, sh87, out87, F87⟩
theorem ok87 : FEOK Tryz.prog e87 := func_ok (cx := cx87) (fn := Tryz.f87) (c := b87) (all_fe (P := Tryz.prog) (l := [e112]) ⟨ok112, trivial⟩) (by kernel_rfl) (by kernel_rfl) (by kernel_rfl) (by kernel_rfl) (by kernel_rfl) (needs_of (l := []) (by kernel_rfl) trivial)
@[reducible] def sh103 : Shape := ⟨[(0, .one (.d (.list (.int .i64))))], []⟩
@[reducible] def out103 : Shape := ⟨[(0, .one (.d (.int .i64)))], []⟩
noncomputable def b103 : Code := Tryz.f103.body.getD .skip
@[reducible] def sh103_0 : Shape := ⟨[(3, .one (.d (.int .i64))), (6, .one (.d (.list (.int .i64)))), (7, .one (.d (.int .i64))), (8, .one (.d (.int .i64)))], []⟩
@[reducible] def os103_0 : List (XE × Shape) := [(.ret, ⟨[(2, .one (.d (.int .i64)))], []⟩), (.ex 0, ⟨[(3, .one (.d (.int .i64)))], []⟩)]
noncomputable def cx103_0 : Cx := ⟨Tryz.prog, [], [], 18, [], []⟩
noncomputable def B103_0 : sh103_0.D → Option (sh103_0.D ⊕ OutsD os103_0) := round cx103_0 (sub [1, 1, 0, 1, 0, 0] b103) sh103_0 os103_0
noncomputable def ce103_0 : CE := ⟨sh103_0, os103_0, loop B103_0⟩
theorem okc103_0 : CEOK Tryz.prog 18 (.loop (sub [1, 1, 0, 1, 0, 0] b103)) ce103_0 := round_ok (cx := cx103_0) (fun R => step_sound (all_fe (P := Tryz.prog) (l := []) trivial) R) (needs_of (l := []) (by kernel_rfl) trivial) sh103_0 os103_0
noncomputable def cx103 : Cx := ⟨Tryz.prog, [], [], 18, [(6, ce103_0)], []⟩
noncomputable def F103 : sh103.D → Option out103.D := func cx103 Tryz.f103 b103 sh103 out103
noncomputable def e103 : FE := ⟨103, sh103, out103, F103⟩
theorem ok103 : FEOK Tryz.prog e103 := func_ok (cx := cx103) (fn := Tryz.f103) (c := b103) (all_fe (P := Tryz.prog) (l := []) trivial) (by kernel_rfl) (by kernel_rfl) (by kernel_rfl) (by kernel_rfl) (by kernel_rfl) (needs_of (l := [((.loop (sub [1, 1, 0, 1, 0, 0] b103)), ce103_0)]) (by kernel_rfl) ⟨okc103_0, trivial⟩)
@[reducible] def sh121 : Shape := ⟨[(0, .one (.d (.int .i64)))], []⟩
@[reducible] def out121 : Shape := ⟨[(0, .one (.d .bool))], []⟩
noncomputable def b121 : Code := Tryz.f121.body.getD .skip
noncomputable def cx121 : Cx := ⟨Tryz.prog, [], [], 6, [], []⟩
noncomputable def F121 : sh121.D → Option out121.D := func cx121 Tryz.f121 b121 sh121 out121
noncomputable def e121 : FE := ⟨121, sh121, out121, F121⟩
theorem ok121 : FEOK Tryz.prog e121 := func_ok (cx := cx121) (fn := Tryz.f121) (c := b121) (all_fe (P := Tryz.prog) (l := []) trivial) (by kernel_rfl) (by kernel_rfl) (by kernel_rfl) (by kernel_rfl) (by kernel_rfl) (needs_of (l := []) (by kernel_rfl) trivial)
@[reducible] def sh104 : Shape := ⟨[(0, .one (.d (.int .i64))), (1, .one (.d (.int .i64)))], []⟩
@[reducible] def out104 : Shape := ⟨[(0, .one (.d (.int .i64)))], []⟩
noncomputable def b104 : Code := Tryz.f104.body.getD .skip
noncomputable def cx104 : Cx := ⟨Tryz.prog, [e121], [], 20, [], []⟩
noncomputable def F104 : sh104.D → Option out104.D := func cx104 Tryz.f104 b104 sh104 out104
noncomputable def e104 : FE := ⟨104, sh104, out104, F104⟩
theorem ok104 : FEOK Tryz.prog e104 := func_ok (cx := cx104) (fn := Tryz.f104) (c := b104) (all_fe (P := Tryz.prog) (l := [e121]) ⟨ok121, trivial⟩) (by kernel_rfl) (by kernel_rfl) (by kernel_rfl) (by kernel_rfl) (by kernel_rfl) (needs_of (l := []) (by kernel_rfl) trivial)
@[reducible] def sh131 : Shape := ⟨[(0, .one (.d .str))], []⟩
@[reducible] def out131 : Shape := ⟨[(0, .one (.d .bool))], []⟩
noncomputable def b131 : Code := Tryz.f131.body.getD .skip
@[reducible] def sh131_0 : Shape := ⟨[(0, .one (.d .str)), (5, .one (.d (.int .i64))), (6, .one (.d (.int .i64)))], []⟩
@[reducible] def os131_0 : List (XE × Shape) := [(.ret, ⟨[(2, .one (.d .bool))], []⟩), (.ex 0, ⟨[(0, .one (.d .str))], []⟩)]
noncomputable def cx131_0 : Cx := ⟨Tryz.prog, [], [], 22, [], []⟩
noncomputable def B131_0 : sh131_0.D → Option (sh131_0.D ⊕ OutsD os131_0) := round cx131_0 (sub [1, 0, 1, 0, 0] b131) sh131_0 os131_0
noncomputable def ce131_0 : CE := ⟨sh131_0, os131_0, loop B131_0⟩
theorem okc131_0 : CEOK Tryz.prog 22 (.loop (sub [1, 0, 1, 0, 0] b131)) ce131_0 := round_ok (cx := cx131_0) (fun R => step_sound (all_fe (P := Tryz.prog) (l := []) trivial) R) (needs_of (l := []) (by kernel_rfl) trivial) sh131_0 os131_0
noncomputable def cx131 : Cx := ⟨Tryz.prog, [], [], 22, [(4, ce131_0)], []⟩
noncomputable def F131 : sh131.D → Option out131.D := func cx131 Tryz.f131 b131 sh131 out131
noncomputable def e131 : FE := ⟨131, sh131, out131, F131⟩
theorem ok131 : FEOK Tryz.prog e131 := func_ok (cx := cx131) (fn := Tryz.f131) (c := b131) (all_fe (P := Tryz.prog) (l := []) trivial) (by kernel_rfl) (by kernel_rfl) (by kernel_rfl) (by kernel_rfl) (by kernel_rfl) (needs_of (l := [((.loop (sub [1, 0, 1, 0, 0] b131)), ce131_0)]) (by kernel_rfl) ⟨okc131_0, trivial⟩)
@[reducible] def sh136 : Shape := ⟨[(0, .one (.d .str))], []⟩
@[reducible] def out136 : Shape := ⟨[(0, .one (.d .bool))], []⟩
noncomputable def b136 : Code := Tryz.f136.body.getD .skip
noncomputable def cx136 : Cx := ⟨Tryz.prog, [], [], 6, [], []⟩
noncomputable def F136 : sh136.D → Option out136.D := func cx136 Tryz.f136 b136 sh136 out136
noncomputable def e136 : FE := ⟨136, sh136, out136, F136⟩
theorem ok136 : FEOK Tryz.prog e136 := func_ok (cx := cx136) (fn := Tryz.f136) (c := b136) (all_fe (P := Tryz.prog) (l := []) trivial) (by kernel_rfl) (by kernel_rfl) (by kernel_rfl) (by kernel_rfl) (by kernel_rfl) (needs_of (l := []) (by kernel_rfl) trivial)
@[reducible] def sh132 : Shape := ⟨[(0, .one (.d .str)), (1, .one (.d .str))], []⟩
@[reducible] def out132 : Shape := ⟨[(0, .one (.d (.int .i64)))], []⟩
noncomputable def b132 : Code := Tryz.f132.body.getD .skip
noncomputable def cx132 : Cx := ⟨Tryz.prog, [e136], [], 20, [], []⟩
noncomputable def F132 : sh132.D → Option out132.D := func cx132 Tryz.f132 b132 sh132 out132
noncomputable def e132 : FE := ⟨132, sh132, out132, F132⟩
theorem ok132 : FEOK Tryz.prog e132 := func_ok (cx := cx132) (fn := Tryz.f132) (c := b132) (all_fe (P := Tryz.prog) (l := [e136]) ⟨ok136, trivial⟩) (by kernel_rfl) (by kernel_rfl) (by kernel_rfl) (by kernel_rfl) (by kernel_rfl) (needs_of (l := []) (by kernel_rfl) trivial)
@[reducible] def sh124 : Shape := ⟨[(0, .one (.d .str)), (1, .one (.d .str))], []⟩
@[reducible] def out124 : Shape := ⟨[(0, .one (.d (.int .i64)))], []⟩
noncomputable def b124 : Code := Tryz.f124.body.getD .skip
noncomputable def cx124 : Cx := ⟨Tryz.prog, [e103, e104, e131, e132], [], 33, [], []⟩
noncomputable def F124 : sh124.D → Option out124.D := func cx124 Tryz.f124 b124 sh124 out124
noncomputable def e124 : FE := ⟨124, sh124, out124, F124⟩
theorem ok124 : FEOK Tryz.prog e124 := func_ok (cx := cx124) (fn := Tryz.f124) (c := b124) (all_fe (P := Tryz.prog) (l := [e103, e104, e131, e132]) ⟨ok103, ok104, ok131, ok132, trivial⟩) (by kernel_rfl) (by kernel_rfl) (by kernel_rfl) (by kernel_rfl) (by kernel_rfl) (needs_of (l := []) (by kernel_rfl) trivial)
@[reducible] def sh122 : Shape := ⟨[(0, .one (.d (.list .str))), (1, .one (.d (.list .str))), (2, .one (.fn 124))], []⟩
@[reducible] def out122 : Shape := ⟨[(0, .one (.d (.int .i64)))], []⟩
noncomputable def b122 : Code := Tryz.f122.body.getD .skip
@[reducible] def sh122_0 : Shape := ⟨[(0, .one (.d (.list .str))), (1, .one (.d (.list .str))), (2, .one (.fn 124)), (11, .one (.d (.list .str))), (12, .one (.d (.int .i64))), (13, .one (.d (.int .i64)))], []⟩
@[reducible] def os122_0 : List (XE × Shape) := [(.ret, ⟨[(6, .one (.d (.int .i64)))], []⟩), (.ex 0, ⟨[(0, .one (.d (.list .str))), (1, .one (.d (.list .str)))], []⟩)]
noncomputable def cx122_0 : Cx := ⟨Tryz.prog, [e124], [], 39, [], []⟩
noncomputable def B122_0 : sh122_0.D → Option (sh122_0.D ⊕ OutsD os122_0) := round cx122_0 (sub [1, 0, 1, 0, 0] b122) sh122_0 os122_0
noncomputable def ce122_0 : CE := ⟨sh122_0, os122_0, loop B122_0⟩
theorem okc122_0 : CEOK Tryz.prog 39 (.loop (sub [1, 0, 1, 0, 0] b122)) ce122_0 := round_ok (cx := cx122_0) (fun R => step_sound (all_fe (P := Tryz.prog) (l := [e124]) ⟨ok124, trivial⟩) R) (needs_of (l := []) (by kernel_rfl) trivial) sh122_0 os122_0
noncomputable def cx122 : Cx := ⟨Tryz.prog, [e124], [], 39, [(4, ce122_0)], []⟩
noncomputable def F122 : sh122.D → Option out122.D := func cx122 Tryz.f122 b122 sh122 out122
noncomputable def e122 : FE := ⟨122, sh122, out122, F122⟩
theorem ok122 : FEOK Tryz.prog e122 := func_ok (cx := cx122) (fn := Tryz.f122) (c := b122) (all_fe (P := Tryz.prog) (l := [e124]) ⟨ok124, trivial⟩) (by kernel_rfl) (by kernel_rfl) (by kernel_rfl) (by kernel_rfl) (by kernel_rfl) (needs_of (l := [((.loop (sub [1, 0, 1, 0, 0] b122)), ce122_0)]) (by kernel_rfl) ⟨okc122_0, trivial⟩)
@[reducible] def sh142 : Shape := ⟨[(0, .one (.d .str)), (1, .one (.d (.int .u8)))], []⟩
@[reducible] def out142 : Shape := ⟨[(0, .one (.d (.int .i64)))], []⟩
noncomputable def b142 : Code := Tryz.f142.body.getD .skip
noncomputable def cx142 : Cx := ⟨Tryz.prog, [e146], [], 8, [], []⟩
noncomputable def F142 : sh142.D → Option out142.D := func cx142 Tryz.f142 b142 sh142 out142
noncomputable def e142 : FE := ⟨142, sh142, out142, F142⟩
theorem ok142 : FEOK Tryz.prog e142 := func_ok (cx := cx142) (fn := Tryz.f142) (c := b142) (all_fe (P := Tryz.prog) (l := [e146]) ⟨ok146, trivial⟩) (by kernel_rfl) (by kernel_rfl) (by kernel_rfl) (by kernel_rfl) (by kernel_rfl) (needs_of (l := []) (by kernel_rfl) trivial)
@[reducible] def sh140 : Shape := ⟨[(0, .one (.d .str)), (1, .one (.d .str))], []⟩
@[reducible] def out140 : Shape := ⟨[(0, .one (.d (.int .i64)))], []⟩
noncomputable def b140 : Code := Tryz.f140.body.getD .skip
noncomputable def cx140 : Cx := ⟨Tryz.prog, [e142], [], 143, [], []⟩
noncomputable def F140 : sh140.D → Option out140.D := func cx140 Tryz.f140 b140 sh140 out140
noncomputable def e140 : FE := ⟨140, sh140, out140, F140⟩
theorem ok140 : FEOK Tryz.prog e140 := func_ok (cx := cx140) (fn := Tryz.f140) (c := b140) (all_fe (P := Tryz.prog) (l := [e142]) ⟨ok142, trivial⟩) (by kernel_rfl) (by kernel_rfl) (by kernel_rfl) (by kernel_rfl) (by kernel_rfl) (needs_of (l := []) (by kernel_rfl) trivial)
@[reducible] def sh135 : Shape := ⟨[(0, .one (.d .str)), (1, .one (.d .str))], []⟩
@[reducible] def out135 : Shape := ⟨[(0, .one (.d (.int .i64)))], []⟩
noncomputable def b135 : Code := Tryz.f135.body.getD .skip
noncomputable def cx135 : Cx := ⟨Tryz.prog, [e140], [], 8, [], []⟩
noncomputable def F135 : sh135.D → Option out135.D := func cx135 Tryz.f135 b135 sh135 out135
noncomputable def e135 : FE := ⟨135, sh135, out135, F135⟩
theorem ok135 : FEOK Tryz.prog e135 := func_ok (cx := cx135) (fn := Tryz.f135) (c := b135) (all_fe (P := Tryz.prog) (l := [e140]) ⟨ok140, trivial⟩) (by kernel_rfl) (by kernel_rfl) (by kernel_rfl) (by kernel_rfl) (by kernel_rfl) (needs_of (l := []) (by kernel_rfl) trivial)
@[reducible] def sh134 : Shape := ⟨[(0, .one (.d .str)), (1, .one (.d .str))], []⟩
@[reducible] def out134 : Shape := ⟨[(0, .one (.d (.int .i64)))], []⟩
noncomputable def b134 : Code := Tryz.f134.body.getD .skip
@[reducible] def sh134_0 : Shape := ⟨[(0, .one (.d .str)), (1, .one (.d .str)), (5, .one (.d (.int .i64)))], []⟩
@[reducible] def os134_0 : List (XE × Shape) := [(.ret, ⟨[(4, .one (.d (.int .i64)))], []⟩)]
noncomputable def cx134_0 : Cx := ⟨Tryz.prog, [e135, e139], [], 34, [], []⟩
noncomputable def B134_0 : sh134_0.D → Option (sh134_0.D ⊕ OutsD os134_0) := round cx134_0 (sub [1, 1, 1, 1, 0, 0] b134) sh134_0 os134_0
noncomputable def ce134_0 : CE := ⟨sh134_0, os134_0, loop B134_0⟩
theorem okc134_0 : CEOK Tryz.prog 34 (.loop (sub [1, 1, 1, 1, 0, 0] b134)) ce134_0 := round_ok (cx := cx134_0) (fun R => step_sound (all_fe (P := Tryz.prog) (l := [e135, e139]) ⟨ok135, ok139, trivial⟩) R) (needs_of (l := []) (by kernel_rfl) trivial) sh134_0 os134_0
noncomputable def cx134 : Cx := ⟨Tryz.prog, [e135, e139], [], 34, [(12, ce134_0)], []⟩
noncomputable def F134 : sh134.D → Option out134.D := func cx134 Tryz.f134 b134 sh134 out134
noncomputable def e134 : FE := ⟨134, sh134, out134, F134⟩
theorem ok134 : FEOK Tryz.prog e134 := func_ok (cx := cx134) (fn := Tryz.f134) (c := b134) (all_fe (P := Tryz.prog) (l := [e135, e139]) ⟨ok135, ok139, trivial⟩) (by kernel_rfl) (by kernel_rfl) (by kernel_rfl) (by kernel_rfl) (by kernel_rfl) (needs_of (l := [((.loop (sub [1, 1, 1, 1, 0, 0] b134)), ce134_0)]) (by kernel_rfl) ⟨okc134_0, trivial⟩)
@[reducible] def sh130 : Shape := ⟨[(0, .one (.d .str)), (1, .one (.d .str)), (2, .one (.d (.int .i64))), (3, .one (.d (.int .i64)))], []⟩
@[reducible] def out130 : Shape := ⟨[(0, .one (.d (.list .str)))], []⟩
noncomputable def b130 : Code := Tryz.f130.body.getD .skip
@[reducible] def sh130_0 : Shape := ⟨[(0, .one (.d .str)), (1, .one (.d .str)), (2, .one (.d (.int .i64))), (3, .one (.d (.int .i64))), (9, .one (.own 200000)), (10, .one (.d (.int .i64)))], [(200000, .lst 9 .str false)]⟩
@[reducible] def os130_0 : List (XE × Shape) := [(.ex 0, ⟨[(0, .one (.d .str)), (9, .one (.own 200000)), (10, .one (.d (.int .i64)))], [(200000, .lst 9 .str false)]⟩)]
noncomputable def cx130_0 : Cx := ⟨Tryz.prog, [e134, e135], [31], 66, [], []⟩
noncomputable def B130_0 : sh130_0.D → Option (sh130_0.D ⊕ OutsD os130_0) := round cx130_0 (sub [1, 1, 1, 1, 1, 1, 1, 1, 0, 0, 0] b130) sh130_0 os130_0
noncomputable def ce130_0 : CE := ⟨sh130_0, os130_0, loop B130_0⟩
theorem okc130_0 : CEOK Tryz.prog 66 (.loop (sub [1, 1, 1, 1, 1, 1, 1, 1, 0, 0, 0] b130)) ce130_0 := round_ok (cx := cx130_0) (fun R => step_sound (all_fe (P := Tryz.prog) (l := [e134, e135]) ⟨ok134, ok135, trivial⟩) R) (needs_of (l := []) (by kernel_rfl) trivial) sh130_0 os130_0
noncomputable def cx130 : Cx := ⟨Tryz.prog, [e134, e135], [31], 66, [(22, ce130_0)], [200000]⟩
noncomputable def F130 : sh130.D → Option out130.D := func cx130 Tryz.f130 b130 sh130 out130
noncomputable def e130 : FE := ⟨130, sh130, out130, F130⟩
theorem ok130 : FEOK Tryz.prog e130 := func_ok (cx := cx130) (fn := Tryz.f130) (c := b130) (all_fe (P := Tryz.prog) (l := [e134, e135]) ⟨ok134, ok135, trivial⟩) (by kernel_rfl) (by kernel_rfl) (by kernel_rfl) (by kernel_rfl) (by kernel_rfl) (needs_of (l := [((.loop (sub [1, 1, 1, 1, 1, 1, 1, 1, 0, 0, 0] b130)), ce130_0)]) (by kernel_rfl) ⟨okc130_0, trivial⟩)
@[reducible] def sh123 : Shape := ⟨[(0, .one (.d .str)), (1, .one (.d .str))], []⟩
@[reducible] def out123 : Shape := ⟨[(0, .one (.d (.list .str)))], []⟩
noncomputable def b123 : Code := Tryz.f123.body.getD .skip
noncomputable def cx123 : Cx := ⟨Tryz.prog, [e130], [], 8, [], []⟩
noncomputable def F123 : sh123.D → Option out123.D := func cx123 Tryz.f123 b123 sh123 out123
noncomputable def e123 : FE := ⟨123, sh123, out123, F123⟩
theorem ok123 : FEOK Tryz.prog e123 := func_ok (cx := cx123) (fn := Tryz.f123) (c := b123) (all_fe (P := Tryz.prog) (l := [e130]) ⟨ok130, trivial⟩) (by kernel_rfl) (by kernel_rfl) (by kernel_rfl) (by kernel_rfl) (by kernel_rfl) (needs_of (l := []) (by kernel_rfl) trivial)
@[reducible] def sh105 : Shape := ⟨[(0, .one (.d .str)), (1, .one (.d .str))], []⟩
@[reducible] def out105 : Shape := ⟨[(0, .one (.d (.int .i64)))], []⟩
noncomputable def b105 : Code := Tryz.f105.body.getD .skip
noncomputable def cx105 : Cx := ⟨Tryz.prog, [e122, e123], [], 20, [], []⟩
noncomputable def F105 : sh105.D → Option out105.D := func cx105 Tryz.f105 b105 sh105 out105
noncomputable def e105 : FE := ⟨105, sh105, out105, F105⟩
theorem ok105 : FEOK Tryz.prog e105 := func_ok (cx := cx105) (fn := Tryz.f105) (c := b105) (all_fe (P := Tryz.prog) (l := [e122, e123]) ⟨ok122, ok123, trivial⟩) (by kernel_rfl) (by kernel_rfl) (by kernel_rfl) (by kernel_rfl) (by kernel_rfl) (needs_of (l := []) (by kernel_rfl) trivial)
@[reducible] def sh76 : Shape := ⟨[(0, .row [.d (.int .i64), .d (.int .i64), .d (.int .i64), .d .str]), (1, .row [.d (.int .i64), .d (.int .i64), .d (.int .i64), .d .str])], []⟩
@[reducible] def out76 : Shape := ⟨[(0, .one (.d (.int .i64)))], []⟩
noncomputable def b76 : Code := Tryz.f76.body.getD .skip
noncomputable def cx76 : Cx := ⟨Tryz.prog, [e103, e104, e105], [], 27, [], []⟩
noncomputable def F76 : sh76.D → Option out76.D := func cx76 Tryz.f76 b76 sh76 out76
noncomputable def e76 : FE := ⟨76, sh76, out76, F76⟩
theorem ok76 : FEOK Tryz.prog e76 := func_ok (cx := cx76) (fn := Tryz.f76) (c := b76) (all_fe (P := Tryz.prog) (l := [e103, e104, e105]) ⟨ok103, ok104, ok105, trivial⟩) (by kernel_rfl) (by kernel_rfl) (by kernel_rfl) (by kernel_rfl) (by kernel_rfl) (needs_of (l := []) (by kernel_rfl) trivial)
@[reducible] def sh90 : Shape := ⟨[(0, .row [.d (.int .i64), .d (.int .i64), .d (.int .i64), .d .str]), (1, .one (.ptr 100000 0)), (2, .one (.ptr 100001 0))], [(100000, .box [.d .str, .d (.int .i64), .d (.int .i64), .d (.int .i64), .d .str]), (100001, .box [.d .str, .d (.list r0), .d (.list r0), .d (.list r4), .d (.list r2), .d (.list r3)])]⟩
@[reducible] def out90 : Shape := ⟨[(0, .one (.d .bool))], [(100000, .box [.d .str, .d (.int .i64), .d (.int .i64), .d (.int .i64), .d .str]), (100001, .box [.d .str, .d (.list r0), .d (.list r0), .d (.list r4), .d (.list r2), .d (.list r3)])]⟩
noncomputable def b90 : Code := Tryz.f90.body.getD .skip
noncomputable def cx90 : Cx := ⟨Tryz.prog, [e76, e87], [], 19, [], []⟩
noncomputable def F90 : sh90.D → Option out90.D := func cx90 Tryz.f90 b90 sh90 out90
noncomputable def e90 : FE := ⟨90, sh90, out90, F90⟩
theorem ok90 : FEOK Tryz.prog e90 := func_ok (cx := cx90) (fn := Tryz.f90) (c := b90) (all_fe (P := Tryz.prog) (l := [e76, e87]) ⟨ok76, ok87, trivial⟩) (by kernel_rfl) (by kernel_rfl) (by kernel_rfl) (by kernel_rfl) (by kernel_rfl) (needs_of (l := []) (by kernel_rfl) trivial)
@[reducible] def sh113 : Shape := ⟨[(0, .one (.own 100000)), (1, .one (.clo 90 [some (100001, 0), some (100002, 0)]))], [(100000, .lst 39 r5 false), (100001, .box [.d .str, .d (.int .i64), .d (.int .i64), .d (.int .i64), .d .str]), (100002, .box [.d .str, .d (.list r0), .d (.list r0), .d (.list r4), .d (.list r2), .d (.list r3)])]⟩
@[reducible] def out113 : Shape := ⟨[(0, .one (.d (.int .i64)))], [(100000, .lst 39 r5 false), (100001, .box [.d .str, .d (.int .i64), .d (.int .i64), .d (.int .i64), .d .str]), (100002, .box [.d .str, .d (.list r0), .d (.list r0), .d (.list r4), .d (.list r2), .d (.list r3)])]⟩
noncomputable def b113 : Code := Tryz.f113.body.getD .skip
@[reducible] def sh113_0 : Shape := ⟨[(0, .one (.own 100000)), (1, .one (.clo 90 [some (100001, 0), some (100002, 0)])), (7, .one (.d (.int .i64))), (8, .one (.d (.int .i64)))], [(100000, .lst 39 r5 false), (100001, .box [.d .str, .d (.int .i64), .d (.int .i64), .d (.int .i64), .d .str]), (100002, .box [.d .str, .d (.list r0), .d (.list r0), .d (.list r4), .d (.list r2), .d (.list r3)])]⟩
@[reducible] def os113_0 : List (XE × Shape) := [(.ret, ⟨[(4, .one (.d (.int .i64)))], [(100000, .lst 39 r5 false), (100001, .box [.d .str, .d (.int .i64), .d (.int .i64), .d (.int .i64), .d .str]), (100002, .box [.d .str, .d (.list r0), .d (.list r0), .d (.list r4), .d (.list r2), .d (.list r3)])]⟩), (.ex 0, ⟨[], [(100000, .lst 39 r5 false), (100001, .box [.d .str, .d (.int .i64), .d (.int .i64), .d (.int .i64), .d .str]), (100002, .box [.d .str, .d (.list r0), .d (.list r0), .d (.list r4), .d (.list r2), .d (.list r3)])]⟩)]
noncomputable def cx113_0 : Cx := ⟨Tryz.prog, [e90], [], 19, [], []⟩
noncomputable def B113_0 : sh113_0.D → Option (sh113_0.D ⊕ OutsD os113_0) := round cx113_0 (sub [1, 0, 1, 0, 0] b113) sh113_0 os113_0
noncomputable def ce113_0 : CE := ⟨sh113_0, os113_0, loop B113_0⟩
theorem okc113_0 : CEOK Tryz.prog 19 (.loop (sub [1, 0, 1, 0, 0] b113)) ce113_0 := round_ok (cx := cx113_0) (fun R => step_sound (all_fe (P := Tryz.prog) (l := [e90]) ⟨ok90, trivial⟩) R) (needs_of (l := []) (by kernel_rfl) trivial) sh113_0 os113_0
noncomputable def cx113 : Cx := ⟨Tryz.prog, [e90], [], 19, [(4, ce113_0)], []⟩
noncomputable def F113 : sh113.D → Option out113.D := func cx113 Tryz.f113 b113 sh113 out113
noncomputable def e113 : FE := ⟨113, sh113, out113, F113⟩
theorem ok113 : FEOK Tryz.prog e113 := func_ok (cx := cx113) (fn := Tryz.f113) (c := b113) (all_fe (P := Tryz.prog) (l := [e90]) ⟨ok90, trivial⟩) (by kernel_rfl) (by kernel_rfl) (by kernel_rfl) (by kernel_rfl) (by kernel_rfl) (needs_of (l := [((.loop (sub [1, 0, 1, 0, 0] b113)), ce113_0)]) (by kernel_rfl) ⟨okc113_0, trivial⟩)
@[reducible] def sh88 : Shape := ⟨[(0, .one (.own 100000)), (1, .one (.clo 90 [some (100001, 0), some (100002, 0)]))], [(100000, .lst 39 r5 false), (100001, .box [.d .str, .d (.int .i64), .d (.int .i64), .d (.int .i64), .d .str]), (100002, .box [.d .str, .d (.list r0), .d (.list r0), .d (.list r4), .d (.list r2), .d (.list r3)])]⟩
@[reducible] def out88 : Shape := ⟨[(0, .one (.d (.list r5)))], [(100000, .lst 39 r5 true), (100001, .box [.d .str, .d (.int .i64), .d (.int .i64), .d (.int .i64), .d .str]), (100002, .box [.d .str, .d (.list r0), .d (.list r0), .d (.list r4), .d (.list r2), .d (.list r3)])]⟩
noncomputable def b88 : Code := Tryz.f88.body.getD .skip
@[reducible] def sh88_0 : Shape := ⟨[(0, .one (.own 100000)), (1, .one (.clo 90 [some (100001, 0), some (100002, 0)])), (5, .one (.d (.int .i64))), (6, .one (.d (.int .i64)))], [(100000, .lst 39 r5 false), (100001, .box [.d .str, .d (.int .i64), .d (.int .i64), .d (.int .i64), .d .str]), (100002, .box [.d .str, .d (.list r0), .d (.list r0), .d (.list r4), .d (.list r2), .d (.list r3)])]⟩
@[reducible] def os88_0 : List (XE × Shape) := [(.ex 0, ⟨[(0, .one (.own 100000)), (5, .one (.d (.int .i64)))], [(100000, .lst 39 r5 false), (100001, .box [.d .str, .d (.int .i64), .d (.int .i64), .d (.int .i64), .d .str]), (100002, .box [.d .str, .d (.list r0), .d (.list r0), .d (.list r4), .d (.list r2), .d (.list r3)])]⟩)]
noncomputable def cx88_0 : Cx := ⟨Tryz.prog, [e90, e113], [], 42, [], []⟩
noncomputable def B88_0 : sh88_0.D → Option (sh88_0.D ⊕ OutsD os88_0) := round cx88_0 (sub [1, 1, 1, 0, 1, 0, 0] b88) sh88_0 os88_0
noncomputable def ce88_0 : CE := ⟨sh88_0, os88_0, loop B88_0⟩
theorem okc88_0 : CEOK Tryz.prog 42 (.loop (sub [1, 1, 1, 0, 1, 0, 0] b88)) ce88_0 := round_ok (cx := cx88_0) (fun R => step_sound (all_fe (P := Tryz.prog) (l := [e90, e113]) ⟨ok90, ok113, trivial⟩) R) (needs_of (l := []) (by kernel_rfl) trivial) sh88_0 os88_0
noncomputable def cx88 : Cx := ⟨Tryz.prog, [e90, e113], [], 42, [(10, ce88_0)], [100000]⟩
noncomputable def F88 : sh88.D → Option out88.D := func cx88 Tryz.f88 b88 sh88 out88
noncomputable def e88 : FE := ⟨88, sh88, out88, F88⟩
theorem ok88 : FEOK Tryz.prog e88 := func_ok (cx := cx88) (fn := Tryz.f88) (c := b88) (all_fe (P := Tryz.prog) (l := [e90, e113]) ⟨ok90, ok113, trivial⟩) (by kernel_rfl) (by kernel_rfl) (by kernel_rfl) (by kernel_rfl) (by kernel_rfl) (needs_of (l := [((.loop (sub [1, 1, 1, 0, 1, 0, 0] b88)), ce88_0)]) (by kernel_rfl) ⟨okc88_0, trivial⟩)
@[reducible] def sh89 : Shape := ⟨[(0, .row [.d (.list r2), .d (.list r3)]), (1, .one (.d .str))], []⟩
@[reducible] def out89 : Shape := ⟨[(0, .one (.own 200000))], [(200000, .lst 39 r5 false)]⟩
noncomputable def b89 : Code := Tryz.f89.body.getD .skip
@[reducible] def sh89_0 : Shape := ⟨[(7, .one (.own 200000)), (22, .one (.d (.list r1))), (23, .one (.d (.int .i64))), (24, .one (.d (.int .i64)))], [(200000, .lst 39 r5 false)]⟩
@[reducible] def os89_0 : List (XE × Shape) := [(.ex 0, ⟨[(7, .one (.own 200000))], [(200000, .lst 39 r5 false)]⟩)]
noncomputable def cx89_0 : Cx := ⟨Tryz.prog, [e111], [0, 1, 2, 3, 4, 5, 6, 7, 8, 9, 10, 11, 12, 13, 14, 15, 16, 17, 18, 19, 20, 21, 22, 23, 24, 25, 26, 27, 28, 29, 30, 31, 32, 33, 34], 35, [], []⟩
noncomputable def B89_0 : sh89_0.D → Option (sh89_0.D ⊕ OutsD os89_0) := round cx89_0 (sub [1, 1, 1, 0, 1, 0, 0] b89) sh89_0 os89_0
noncomputable def ce89_0 : CE := ⟨sh89_0, os89_0, loop B89_0⟩
theorem okc89_0 : CEOK Tryz.prog 35 (.loop (sub [1, 1, 1, 0, 1, 0, 0] b89)) ce89_0 := round_ok (cx := cx89_0) (fun R => step_sound (all_fe (P := Tryz.prog) (l := [e111]) ⟨ok111, trivial⟩) R) (needs_of (l := []) (by kernel_rfl) trivial) sh89_0 os89_0
noncomputable def cx89 : Cx := ⟨Tryz.prog, [e111], [0, 1, 2, 3, 4, 5, 6, 7, 8, 9, 10, 11, 12, 13, 14, 15, 16, 17, 18, 19, 20, 21, 22, 23, 24, 25, 26, 27, 28, 29, 30, 31, 32, 33, 34], 35, [(8, ce89_0)], []⟩
noncomputable def F89 : sh89.D → Option out89.D := func cx89 Tryz.f89 b89 sh89 out89
noncomputable def e89 : FE := ⟨89, sh89, out89, F89⟩
theorem ok89 : FEOK Tryz.prog e89 := func_ok (cx := cx89) (fn := Tryz.f89) (c := b89) (all_fe (P := Tryz.prog) (l := [e111]) ⟨ok111, trivial⟩) (by kernel_rfl) (by kernel_rfl) (by kernel_rfl) (by kernel_rfl) (by kernel_rfl) (needs_of (l := [((.loop (sub [1, 1, 1, 0, 1, 0, 0] b89)), ce89_0)]) (by kernel_rfl) ⟨okc89_0, trivial⟩)
@[reducible] def sh114 : Shape := ⟨[(0, .one (.d (.list r5))), (1, .one (.fn 76))], []⟩
@[reducible] def out114 : Shape := ⟨[(0, .row [.d (.int .i64), .d (.int .i64), .d (.int .i64), .d .str])], []⟩
noncomputable def b114 : Code := Tryz.f114.body.getD .skip
@[reducible] def sh114_0 : Shape := ⟨[(0, .one (.d (.list r5))), (1, .one (.fn 76)), (4, .one (.ptr 200000 0)), (5, .one (.ptr 200001 0)), (6, .one (.d (.int .i64)))], [(200000, .box [.d (.int .i64), .d (.int .i64), .d (.int .i64), .d .str]), (200001, .box [.d (.int .i64), .d (.int .i64), .d (.int .i64), .d .str])]⟩
@[reducible] def os114_0 : List (XE × Shape) := [(.ex 0, ⟨[(4, .one (.ptr 200000 0)), (5, .one (.ptr 200001 0))], [(200000, .box [.d (.int .i64), .d (.int .i64), .d (.int .i64), .d .str]), (200001, .box [.d (.int .i64), .d (.int .i64), .d (.int .i64), .d .str])]⟩)]
noncomputable def cx114_0 : Cx := ⟨Tryz.prog, [e76], [], 33, [], []⟩
noncomputable def B114_0 : sh114_0.D → Option (sh114_0.D ⊕ OutsD os114_0) := round cx114_0 (sub [1, 1, 1, 0, 1, 0, 0] b114) sh114_0 os114_0
noncomputable def ce114_0 : CE := ⟨sh114_0, os114_0, loop B114_0⟩
theorem okc114_0 : CEOK Tryz.prog 33 (.loop (sub [1, 1, 1, 0, 1, 0, 0] b114)) ce114_0 := round_ok (cx := cx114_0) (fun R => step_sound (all_fe (P := Tryz.prog) (l := [e76]) ⟨ok76, trivial⟩) R) (needs_of (l := []) (by kernel_rfl) trivial) sh114_0 os114_0
noncomputable def cx114 : Cx := ⟨Tryz.prog, [e76], [], 33, [(10, ce114_0)], []⟩
noncomputable def F114 : sh114.D → Option out114.D := func cx114 Tryz.f114 b114 sh114 out114
noncomputable def e114 : FE := ⟨114, sh114, out114, F114⟩
theorem ok114 : FEOK Tryz.prog e114 := func_ok (cx := cx114) (fn := Tryz.f114) (c := b114) (all_fe (P := Tryz.prog) (l := [e76]) ⟨ok76, trivial⟩) (by kernel_rfl) (by kernel_rfl) (by kernel_rfl) (by kernel_rfl) (by kernel_rfl) (needs_of (l := [((.loop (sub [1, 1, 1, 0, 1, 0, 0] b114)), ce114_0)]) (by kernel_rfl) ⟨okc114_0, trivial⟩)
@[reducible] def sh91 : Shape := ⟨[(0, .one (.d (.list r5)))], []⟩
@[reducible] def out91 : Shape := ⟨[(0, .row [.d (.int .i64), .d (.int .i64), .d (.int .i64), .d .str])], []⟩
noncomputable def b91 : Code := Tryz.f91.body.getD .skip
noncomputable def cx91 : Cx := ⟨Tryz.prog, [e114], [], 9, [], []⟩
noncomputable def F91 : sh91.D → Option out91.D := func cx91 Tryz.f91 b91 sh91 out91
noncomputable def e91 : FE := ⟨91, sh91, out91, F91⟩
theorem ok91 : FEOK Tryz.prog e91 := func_ok (cx := cx91) (fn := Tryz.f91) (c := b91) (all_fe (P := Tryz.prog) (l := [e114]) ⟨ok114, trivial⟩) (by kernel_rfl) (by kernel_rfl) (by kernel_rfl) (by kernel_rfl) (by kernel_rfl) (needs_of (l := []) (by kernel_rfl) trivial)
@[reducible] def sh72 : Shape := ⟨[(0, .row [.d .str, .d (.list r0), .d (.list r0), .d (.list r4), .d (.list r2), .d (.list r3)]), (1, .row [.d .str, .d (.int .i64), .d (.int .i64), .d (.int .i64), .d .str])], []⟩
@[reducible] def out72 : Shape := ⟨[(0, .row [.d .str, .d (.int .i64), .d (.int .i64), .d (.int .i64), .d .str]), (1, .one (.d .bool)), (2, .one (.d (.int .i64)))], []⟩
noncomputable def b72 : Code := Tryz.f72.body.getD .skip
noncomputable def cx72 : Cx := ⟨Tryz.prog, [e66, e69, e87, e88, e89, e91], [], 67, [], []⟩
noncomputable def F72 : sh72.D → Option out72.D := func cx72 Tryz.f72 b72 sh72 out72
noncomputable def e72 : FE := ⟨72, sh72, out72, F72⟩
theorem ok72 : FEOK Tryz.prog e72 := func_ok (cx := cx72) (fn := Tryz.f72) (c := b72) (all_fe (P := Tryz.prog) (l := [e66, e69, e87, e88, e89, e91]) ⟨ok66, ok69, ok87, ok88, ok89, ok91, trivial⟩) (by kernel_rfl) (by kernel_rfl) (by kernel_rfl) (by kernel_rfl) (by kernel_rfl) (needs_of (l := []) (by kernel_rfl) trivial)
@[reducible] def sh53 : Shape := ⟨[(0, .row [.d .str, .d (.list r0), .d (.list r0), .d (.list r4), .d (.list r2), .d (.list r3)]), (1, .one (.d (.list r0)))], []⟩
@[reducible] def out53 : Shape := ⟨[(0, .one (.own 200000)), (1, .one (.d (.int .i64)))], [(200000, .lst 43 r0 false)]⟩
noncomputable def b53 : Code := Tryz.f53.body.getD .skip
@[reducible] def sh53_0 : Shape := ⟨[(2, .one (.ptr 200000 0)), (6, .one (.own 200001)), (12, .one (.d (.list r0))), (13, .one (.d (.int .i64))), (14, .one (.d (.int .i64)))], [(200000, .box [.d .str, .d (.list r0), .d (.list r0), .d (.list r4), .d (.list r2), .d (.list r3)]), (200001, .lst 43 r0 false)]⟩
@[reducible] def os53_0 : List (XE × Shape) := [(.ret, ⟨[(4, .one (.nilS)), (5, .one (.d (.int .i64)))], []⟩), (.ex 0, ⟨[(6, .one (.own 200000))], [(200000, .lst 43 r0 false)]⟩)]
noncomputable def cx53_0 : Cx := ⟨Tryz.prog, [e72], [0, 1, 2, 3, 4, 5, 6, 7, 8, 9, 10, 11, 12, 13, 14, 15, 16, 17, 18, 19, 20, 21, 22, 23, 24, 25, 26, 27, 28, 29, 30, 31, 32, 33, 34], 35, [], []⟩
noncomputable def B53_0 : sh53_0.D → Option (sh53_0.D ⊕ OutsD os53_0) := round cx53_0 (sub [1, 1, 0, 1, 0, 0] b53) sh53_0 os53_0
noncomputable def ce53_0 : CE := ⟨sh53_0, os53_0, loop B53_0⟩
theorem okc53_0 : CEOK Tryz.prog 35 (.loop (sub [1, 1, 0, 1, 0, 0] b53)) ce53_0 := round_ok (cx := cx53_0) (fun R => step_sound (all_fe (P := Tryz.prog) (l := [e72]) ⟨ok72, trivial⟩) R) (needs_of (l := []) (by kernel_rfl) trivial) sh53_0 os53_0
noncomputable def cx53 : Cx := ⟨Tryz.prog, [e72], [0, 1, 2, 3, 4, 5, 6, 7, 8, 9, 10, 11, 12, 13, 14, 15, 16, 17, 18, 19, 20, 21, 22, 23, 24, 25, 26, 27, 28, 29, 30, 31, 32, 33, 34], 35, [(6, ce53_0)], []⟩
noncomputable def F53 : sh53.D → Option out53.D := func cx53 Tryz.f53 b53 sh53 out53
noncomputable def e53 : FE := ⟨53, sh53, out53, F53⟩
theorem ok53 : FEOK Tryz.prog e53 := func_ok (cx := cx53) (fn := Tryz.f53) (c := b53) (all_fe (P := Tryz.prog) (l := [e72]) ⟨ok72, trivial⟩) (by kernel_rfl) (by kernel_rfl) (by kernel_rfl) (by kernel_rfl) (by kernel_rfl) (needs_of (l := [((.loop (sub [1, 1, 0, 1, 0, 0] b53)), ce53_0)]) (by kernel_rfl) ⟨okc53_0, trivial⟩)
@[reducible] def sh102 : Shape := ⟨[(0, .one (.d .str)), (1, .one (.d .str))], []⟩
@[reducible] def out102 : Shape := ⟨[(0, .one (.d (.int .i64)))], []⟩
noncomputable def b102 : Code := Tryz.f102.body.getD .skip
noncomputable def cx102 : Cx := ⟨Tryz.prog, [e120], [], 8, [], []⟩
noncomputable def F102 : sh102.D → Option out102.D := func cx102 Tryz.f102 b102 sh102 out102
noncomputable def e102 : FE := ⟨102, sh102, out102, F102⟩
theorem ok102 : FEOK Tryz.prog e102 := func_ok (cx := cx102) (fn := Tryz.f102) (c := b102) (all_fe (P := Tryz.prog) (l := [e120]) ⟨ok120, trivial⟩) (by kernel_rfl) (by kernel_rfl) (by kernel_rfl) (by kernel_rfl) (by kernel_rfl) (needs_of (l := []) (by kernel_rfl) trivial)
@[reducible] def sh75 : Shape := ⟨[(0, .one (.d .str)), (1, .one (.d .str))], []⟩
@[reducible] def out75 : Shape := ⟨[(0, .one (.d (.int .i64)))], []⟩
noncomputable def b75 : Code := Tryz.f75.body.getD .skip
noncomputable def cx75 : Cx := ⟨Tryz.prog, [e102], [], 8, [], []⟩
noncomputable def F75 : sh75.D → Option out75.D := func cx75 Tryz.f75 b75 sh75 out75
noncomputable def e75 : FE := ⟨75, sh75, out75, F75⟩
theorem ok75 : FEOK Tryz.prog e75 := func_ok (cx := cx75) (fn := Tryz.f75) (c := b75) (all_fe (P := Tryz.prog) (l := [e102]) ⟨ok102, trivial⟩) (by kernel_rfl) (by kernel_rfl) (by kernel_rfl) (by kernel_rfl) (by kernel_rfl) (needs_of (l := []) (by kernel_rfl) trivial)
@[reducible] def sh55 : Shape := ⟨[(0, .row [.d .str, .d (.int .i64), .d (.int .i64), .d (.int .i64), .d .str]), (1, .row [.d .str, .d (.int .i64), .d (.int .i64), .d (.int .i64), .d .str])], []⟩
@[reducible] def out55 : Shape := ⟨[(0, .one (.d (.int .i64)))], []⟩
noncomputable def b55 : Code := Tryz.f55.body.getD .skip
noncomputable def cx55 : Cx := ⟨Tryz.prog, [e75, e76], [], 19, [], []⟩
noncomputable def F55 : sh55.D → Option out55.D := func cx55 Tryz.f55 b55 sh55 out55
noncomputable def e55 : FE := ⟨55, sh55, out55, F55⟩
theorem ok55 : FEOK Tryz.prog e55 := func_ok (cx := cx55) (fn := Tryz.f55) (c := b55) (all_fe (P := Tryz.prog) (l := [e75, e76]) ⟨ok75, ok76, trivial⟩) (by kernel_rfl) (by kernel_rfl) (by kernel_rfl) (by kernel_rfl) (by kernel_rfl) (needs_of (l := []) (by kernel_rfl) trivial)
@[reducible] def sh70 : Shape := ⟨[(0, .one (.d (.list r0)))], []⟩
@[reducible] def out70 : Shape := ⟨[(0, .one (.d (.list r0)))], []⟩
noncomputable def b70 : Code := Tryz.f70.body.getD .skip
noncomputable def cx70 : Cx := ⟨Tryz.prog, [], [], 9, [], []⟩
noncomputable def F70 : sh70.D → Option out70.D := func cx70 Tryz.f70 b70 sh70 out70
noncomputable def e70 : FE := ⟨70, sh70, out70, F70⟩
theorem ok70 : FEOK Tryz.prog e70 := func_ok (cx := cx70) (fn := Tryz.f70) (c := b70) (all_fe (P := Tryz.prog) (l := []) trivial) (by kernel_rfl) (by kernel_rfl) (by kernel_rfl) (by kernel_rfl) (by kernel_rfl) (needs_of (l := []) (by kernel_rfl) trivial)
@[reducible] def sh71 : Shape := ⟨[(0, .one (.own 100000))], [(100000, .lst 43 r0 false)]⟩
@[reducible] def out71 : Shape := ⟨[(0, .one (.d (.list r0)))], [(100000, .lst 43 r0 true)]⟩
noncomputable def b71 : Code := Tryz.f71.body.getD .skip
@[reducible] def sh71_0 : Shape := ⟨[(0, .one (.own 100000)), (3, .one (.d (.int .i64))), (4, .one (.os 100000 5)), (5, .one (.d (.int .i64)))], [(100000, .lst 43 r0 false)]⟩
@[reducible] def os71_0 : List (XE × Shape) := [(.ex 2, ⟨[(0, .one (.own 100000)), (3, .one (.d (.int .i64)))], [(100000, .lst 43 r0 false)]⟩)]
noncomputable def cx71_0 : Cx := ⟨Tryz.prog, [], [], 61, [], []⟩
noncomputable def B71_0 : sh71_0.D → Option (sh71_0.D ⊕ OutsD os71_0) := round cx71_0 (sub [1, 1, 0, 1, 0, 0, 1, 0, 0, 1, 0, 1, 0, 1, 0, 0] b71) sh71_0 os71_0
noncomputable def ce71_0 : CE := ⟨sh71_0, os71_0, loop B71_0⟩
theorem okc71_0 : CEOK Tryz.prog 61 (.loop (sub [1, 1, 0, 1, 0, 0, 1, 0, 0, 1, 0, 1, 0, 1, 0, 0] b71)) ce71_0 := round_ok (cx := cx71_0) (fun R => step_sound (all_fe (P := Tryz.prog) (l := []) trivial) R) (needs_of (l := []) (by kernel_rfl) trivial) sh71_0 os71_0
@[reducible] def sh71_1 : Shape := ⟨[(0, .one (.own 100000)), (3, .one (.d (.int .i64)))], [(100000, .lst 43 r0 false)]⟩
@[reducible] def os71_1 : List (XE × Shape) := [(.ret, ⟨[(2, .one (.os 100000 5))], [(100000, .lst 43 r0 false)]⟩), (.ex 0, ⟨[(0, .one (.own 100000))], [(100000, .lst 43 r0 false)]⟩)]
noncomputable def cx71_1 : Cx := ⟨Tryz.prog, [], [], 61, [(18, ce71_0)], []⟩
noncomputable def B71_1 : sh71_1.D → Option (sh71_1.D ⊕ OutsD os71_1) := round cx71_1 (sub [1, 1, 0, 1, 0, 0] b71) sh71_1 os71_1
noncomputable def ce71_1 : CE := ⟨sh71_1, os71_1, loop B71_1⟩
theorem okc71_1 : CEOK Tryz.prog 61 (.loop (sub [1, 1, 0, 1, 0, 0] b71)) ce71_1 := round_ok (cx := cx71_1) (fun R => step_sound (all_fe (P := Tryz.prog) (l := []) trivial) R) (needs_of (l := [((.loop (sub [1, 1, 0, 1, 0, 0, 1, 0, 0, 1, 0, 1, 0, 1, 0, 0] b71)), ce71_0)]) (by kernel_rfl) ⟨okc71_0, trivial⟩) sh71_1 os71_1
noncomputable def cx71 : Cx := ⟨Tryz.prog, [], [], 61, [(18, ce71_0), (8, ce71_1)], [100000]⟩
noncomputable def F71 : sh71.D → Option out71.D := func cx71 Tryz.f71 b71 sh71 out71
noncomputable def e71 : FE := ⟨71, sh71, out71, F71⟩
theorem ok71 : FEOK Tryz.prog e71 := func_ok (cx := cx71) (fn := Tryz.f71) (c := b71) (all_fe (P := Tryz.prog) (l := []) trivial) (by kernel_rfl) (by kernel_rfl) (by kernel_rfl) (by kernel_rfl) (by kernel_rfl) (needs_of (l := [((.loop (sub [1, 1, 0, 1, 0, 0] b71)), ce71_1)]) (by kernel_rfl) ⟨okc71_1, trivial⟩)
@[reducible] def sh65 : Shape := ⟨[(0, .one (.d (.list r0)))], []⟩
@[reducible] def out65 : Shape := ⟨[(0, .one (.clo 84 [some (200000, 0)]))], [(200000, .box [.d (.list r0)])]⟩
noncomputable def b65 : Code := Tryz.f65.body.getD .skip
noncomputable def cx65 : Cx := ⟨Tryz.prog, [], [], 4, [], []⟩
noncomputable def F65 : sh65.D → Option out65.D := func cx65 Tryz.f65 b65 sh65 out65
noncomputable def e65 : FE := ⟨65, sh65, out65, F65⟩
theorem ok65 : FEOK Tryz.prog e65 := func_ok (cx := cx65) (fn := Tryz.f65) (c := b65) (all_fe (P := Tryz.prog) (l := []) trivial) (by kernel_rfl) (by kernel_rfl) (by kernel_rfl) (by kernel_rfl) (by kernel_rfl) (needs_of (l := []) (by kernel_rfl) trivial)
@[reducible] def sh67 : Shape := ⟨[(0, .one (.d (.list r6)))], []⟩
@[reducible] def out67 : Shape := ⟨[(0, .one (.d (.list r6)))], []⟩
noncomputable def b67 : Code := Tryz.f67.body.getD .skip
noncomputable def cx67 : Cx := ⟨Tryz.prog, [], [], 8, [], []⟩
noncomputable def F67 : sh67.D → Option out67.D := func cx67 Tryz.f67 b67 sh67 out67
noncomputable def e67 : FE := ⟨67, sh67, out67, F67⟩
theorem ok67 : FEOK Tryz.prog e67 := func_ok (cx := cx67) (fn := Tryz.f67) (c := b67) (all_fe (P := Tryz.prog) (l := []) trivial) (by kernel_rfl) (by kernel_rfl) (by kernel_rfl) (by kernel_rfl) (by kernel_rfl) (needs_of (l := []) (by kernel_rfl) trivial)
@[reducible] def sh20 : Shape := ⟨[(0, .one (.d (.list r6))), (1, .one (.d .str))], []⟩
@[reducible] def out20 : Shape := ⟨[(0, .row [.d .str, .d (.int .i64), .d (.int .i64), .d (.int .i64), .d .str, .d .str, .d (.int .i64), .d (.int .i64), .d (.int .i64), .d .str]), (1, .one (.d .bool))], []⟩
noncomputable def b20 : Code := Tryz.f20.body.getD .skip
@[reducible] def sh20_0 : Shape := ⟨[(1, .one (.d .str)), (4, .one (.ptr 200000 0)), (8, .one (.d (.list r6))), (9, .one (.d (.int .i64))), (10, .one (.d (.int .i64)))], [(200000, .box [.d .str, .d (.int .i64), .d (.int .i64), .d (.int .i64), .d .str, .d .str, .d (.int .i64), .d (.int .i64), .d (.int .i64), .d .str])]⟩
@[reducible] def os20_0 : List (XE × Shape) := [(.ret, ⟨[(4, .one (.ptr 200000 0)), (5, .one (.d .bool))], [(200000, .box [.d .str, .d (.int .i64), .d (.int .i64), .d (.int .i64), .d .str, .d .str, .d (.int .i64), .d (.int .i64), .d (.int .i64), .d .str])]⟩), (.ex 0, ⟨[(4, .one (.ptr 200000 0))], [(200000, .box [.d .str, .d (.int .i64), .d (.int .i64), .d (.int .i64), .d .str, .d .str, .d (.int .i64), .d (.int .i64), .d (.int .i64), .d .str])]⟩)]
noncomputable def cx20_0 : Cx := ⟨Tryz.prog, [], [], 21, [], []⟩
noncomputable def B20_0 : sh20_0.D → Option (sh20_0.D ⊕ OutsD os20_0) := round cx20_0 (sub [1, 0, 1, 0, 0] b20) sh20_0 os20_0
noncomputable def ce20_0 : CE := ⟨sh20_0, os20_0, loop B20_0⟩
theorem okc20_0 : CEOK Tryz.prog 21 (.loop (sub [1, 0, 1, 0, 0] b20)) ce20_0 := round_ok (cx := cx20_0) (fun R => step_sound (all_fe (P := Tryz.prog) (l := []) trivial) R) (needs_of (l := []) (by kernel_rfl) trivial) sh20_0 os20_0
noncomputable def cx20 : Cx := ⟨Tryz.prog, [], [], 21, [(4, ce20_0)], []⟩
noncomputable def F20 : sh20.D → Option out20.D := func cx20 Tryz.f20 b20 sh20 out20
noncomputable def e20 : FE := ⟨20, sh20, out20, F20⟩
theorem ok20 : FEOK Tryz.prog e20 := func_ok (cx := cx20) (fn := Tryz.f20) (c := b20) (all_fe (P := Tryz.prog) (l := []) trivial) (by kernel_rfl) (by kernel_rfl) (by kernel_rfl) (by kernel_rfl) (by kernel_rfl) (needs_of (l := [((.loop (sub [1, 0, 1, 0, 0] b20)), ce20_0)]) (by kernel_rfl) ⟨okc20_0, trivial⟩)
@[reducible] def sh33 : Shape := ⟨[(0, .one (.d (.int .i64))), (1, .one (.d (.int .i64)))], []⟩
@[reducible] def out33 : Shape := ⟨[(0, .one (.d (.int .i64)))], []⟩
noncomputable def b33 : Code := Tryz.f33.body.getD .skip
noncomputable def cx33 : Cx := ⟨Tryz.prog, [], [], 15, [], []⟩
noncomputable def F33 : sh33.D → Option out33.D := func cx33 Tryz.f33 b33 sh33 out33
noncomputable def e33 : FE := ⟨33, sh33, out33, F33⟩
theorem ok33 : FEOK Tryz.prog e33 := func_ok (cx := cx33) (fn := Tryz.f33) (c := b33) (all_fe (P := Tryz.prog) (l := []) trivial) (by kernel_rfl) (by kernel_rfl) (by kernel_rfl) (by kernel_rfl) (by kernel_rfl) (needs_of (l := []) (by kernel_rfl) trivial)
@[reducible] def sh34 : Shape := ⟨[], []⟩
@[reducible] def out34 : Shape := ⟨[(0, .one (.d (.list .str)))], []⟩
noncomputable def b34 : Code := Tryz.f34.body.getD .skip
noncomputable def cx34 : Cx := ⟨Tryz.prog, [], [], 2, [], []⟩
noncomputable def F34 : sh34.D → Option out34.D := func cx34 Tryz.f34 b34 sh34 out34
noncomputable def e34 : FE := ⟨34, sh34, out34, F34⟩
theorem ok34 : FEOK Tryz.prog e34 := func_ok (cx := cx34) (fn := Tryz.f34) (c := b34) (all_fe (P := Tryz.prog) (l := []) trivial) (by kernel_rfl) (by kernel_rfl) (by kernel_rfl) (by kernel_rfl) (by kernel_rfl) (needs_of (l := []) (by kernel_rfl) trivial)
@[reducible] def sh35 : Shape := ⟨[(0, .one (.d (.int .i64)))], []⟩
@[reducible] def out35 : Shape := ⟨[(0, .one (.d (.int .i64)))], []⟩
noncomputable def b35 : Code := Tryz.f35.body.getD .skip
noncomputable def cx35 : Cx := ⟨Tryz.prog, [], [], 7, [], []⟩
noncomputable def F35 : sh35.D → Option out35.D := func cx35 Tryz.f35 b35 sh35 out35
noncomputable def e35 : FE := ⟨35, sh35, out35, F35⟩
theorem ok35 : FEOK Tryz.prog e35 := func_ok (cx := cx35) (fn := Tryz.f35) (c := b35) (all_fe (P := Tryz.prog) (l := []) trivial) (by kernel_rfl) (by kernel_rfl) (by kernel_rfl) (by kernel_rfl) (by kernel_rfl) (needs_of (l := []) (by kernel_rfl) trivial)
@[reducible] def sh38 : Shape := ⟨[(0, .one (.d (.int .i64))), (1, .one (.d (.int .i64)))], []⟩
@[reducible] def out38 : Shape := ⟨[(0, .one (.d .str))], []⟩
noncomputable def b38 : Code := Tryz.f38.body.getD .skip
noncomputable def cx38 : Cx := ⟨Tryz.prog, [], [], 21, [], []⟩
noncomputable def F38 : sh38.D → Option out38.D := func cx38 Tryz.f38 b38 sh38 out38
noncomputable def e38 : FE := ⟨38, sh38, out38, F38⟩
theorem ok38 : FEOK Tryz.prog e38 := func_ok (cx := cx38) (fn := Tryz.f38) (c := b38) (all_fe (P := Tryz.prog) (l := []) trivial) (by kernel_rfl) (by kernel_rfl) (by kernel_rfl) (by kernel_rfl) (by kernel_rfl) (needs_of (l := []) (by kernel_rfl) trivial)
@[reducible] def sh37 : Shape := ⟨[(0, .one (.d (.int .i64)))], []⟩
@[reducible] def out37 : Shape := ⟨[(0, .one (.d .str))], []⟩
noncomputable def b37 : Code := Tryz.f37.body.getD .skip
noncomputable def cxr37 (X : sh37.D → Option out37.D) : Cx := ⟨Tryz.prog, (⟨37, sh37, out37, X⟩ :: []), [], 17, [], []⟩
noncomputable def FX37 (X : sh37.D → Option out37.D) : sh37.D → Option out37.D := func (cxr37 X) Tryz.f37 b37 sh37 out37
noncomputable def FR37 : Nat → sh37.D → Option out37.D | 0 => fun _ => none | k + 1 => FX37 (FR37 k)
noncomputable def F37 : sh37.D → Option out37.D := FR37 30
noncomputable def e37 : FE := ⟨37, sh37, out37, F37⟩
theorem okr37 : ∀ k, FEOK Tryz.prog ⟨37, sh37, out37, FR37 k⟩ := rec_ok (fun _ => rfl) fun k ih => func_ok (cx := cxr37 (FR37 k)) (fn := Tryz.f37) (c := b37) (all_fe (P := Tryz.prog) (l := ⟨37, sh37, out37, FR37 k⟩ :: []) ⟨ih, trivial⟩) (by kernel_rfl) (by kernel_rfl) (by kernel_rfl) (by kernel_rfl) (by kernel_rfl) (needs_of (l := []) (by kernel_rfl) trivial)
theorem ok37 : FEOK Tryz.prog e37 := okr37 30
@[reducible] def sh85 : Shape := ⟨[(0, .one (.d (.int .u8)))], []⟩
@[reducible] def out85 : Shape := ⟨[(0, .one (.d .bool))], []⟩
noncomputable def b85 : Code := Tryz.f85.body.getD .skip
noncomputable def cx85 : Cx := ⟨Tryz.prog, [], [], 9, [], []⟩
noncomputable def F85 : sh85.D → Option out85.D := func cx85 Tryz.f85 b85 sh85 out85
noncomputable def e85 : FE := ⟨85, sh85, out85, F85⟩
theorem ok85 : FEOK Tryz.prog e85 := func_ok (cx := cx85) (fn := Tryz.f85) (c := b85) (all_fe (P := Tryz.prog) (l := []) trivial) (by kernel_rfl) (by kernel_rfl) (by kernel_rfl) (by kernel_rfl) (by kernel_rfl) (needs_of (l := []) (by kernel_rfl) trivial)
@[reducible] def sh79 : Shape := ⟨[(0, .one (.d .str))], []⟩
@[reducible] def out79 : Shape := ⟨[(0, .one (.d .bool))], []⟩
noncomputable def b79 : Code := Tryz.f79.body.getD .skip
@[reducible] def sh79_0 : Shape := ⟨[(0, .one (.d .str)), (3, .one (.d (.int .i64)))], []⟩
@[reducible] def os79_0 : List (XE × Shape) := [(.ret, ⟨[(2, .one (.d .bool))], []⟩), (.ex 0, ⟨[(0, .one (.d .str))], []⟩)]
noncomputable def cx79_0 : Cx := ⟨Tryz.prog, [e85], [], 35, [], []⟩
noncomputable def B79_0 : sh79_0.D → Option (sh79_0.D ⊕ OutsD os79_0) := round cx79_0 (sub [1, 0, 1, 0, 0] b79) sh79_0 os79_0
noncomputable def ce79_0 : CE := ⟨sh79_0, os79_0, loop B79_0⟩
theorem okc79_0 : CEOK Tryz.prog 35 (.loop (sub [1, 0, 1, 0, 0] b79)) ce79_0 := round_ok (cx := cx79_0) (fun R => step_sound (all_fe (P := Tryz.prog) (l := [e85]) ⟨ok85, trivial⟩) R) (needs_of (l := []) (by kernel_rfl) trivial) sh79_0 os79_0
noncomputable def cx79 : Cx := ⟨Tryz.prog, [e85], [], 35, [(4, ce79_0)], []⟩
noncomputable def F79 : sh79.D → Option out79.D := func cx79 Tryz.f79 b79 sh79 out79
noncomputable def e79 : FE := ⟨79, sh79, out79, F79⟩
theorem ok79 : FEOK Tryz.prog e79 := func_ok (cx := cx79) (fn := Tryz.f79) (c := b79) (all_fe (P := Tryz.prog) (l := [e85]) ⟨ok85, trivial⟩) (by kernel_rfl) (by kernel_rfl) (by kernel_rfl) (by kernel_rfl) (by kernel_rfl) (needs_of (l := [((.loop (sub [1, 0, 1, 0, 0] b79)), ce79_0)]) (by kernel_rfl) ⟨okc79_0, trivial⟩)
@[reducible] def sh126 : Shape := ⟨[(0, .one (.d (.int .u8)))], []⟩
@[reducible] def out126 : Shape := ⟨[(0, .one (.d .bool))], []⟩
noncomputable def b126 : Code := Tryz.f126.body.getD .skip
noncomputable def cx126 : Cx := ⟨Tryz.prog, [], [], 21, [], []⟩
noncomputable def F126 : sh126.D → Option out126.D := func cx126 Tryz.f126 b126 sh126 out126
noncomputable def e126 : FE := ⟨126, sh126, out126, F126⟩
theorem ok126 : FEOK Tryz.prog e126 := func_ok (cx := cx126) (fn := Tryz.f126) (c := b126) (all_fe (P := Tryz.prog) (l := []) trivial) (by kernel_rfl) (by kernel_rfl) (by kernel_rfl) (by kernel_rfl) (by kernel_rfl) (needs_of (l := []) (by kernel_rfl) trivial)
@[reducible] def sh68 : Shape := ⟨[(0, .one (.d .str))], []⟩
@[reducible] def out68 : Shape := ⟨[(0, .one (.d .bool))], []⟩
noncomputable def b68 : Code := Tryz.f68.body.getD .skip
@[reducible] def sh68_0 : Shape := ⟨[(0, .one (.d .str)), (3, .one (.d (.int .i64)))], []⟩
@[reducible] def os68_0 : List (XE × Shape) := [(.ret, ⟨[(2, .one (.d .bool))], []⟩), (.ex 0, ⟨[(0, .one (.d .str))], []⟩)]
noncomputable def cx68_0 : Cx := ⟨Tryz.prog, [e85], [], 17, [], []⟩
noncomputable def B68_0 : sh68_0.D → Option (sh68_0.D ⊕ OutsD os68_0) := round cx68_0 (sub [1, 0, 1, 0, 0] b68) sh68_0 os68_0
noncomputable def ce68_0 : CE := ⟨sh68_0, os68_0, loop B68_0⟩
theorem okc68_0 : CEOK Tryz.prog 17 (.loop (sub [1, 0, 1, 0, 0] b68)) ce68_0 := round_ok (cx := cx68_0) (fun R => step_sound (all_fe (P := Tryz.prog) (l := [e85]) ⟨ok85, trivial⟩) R) (needs_of (l := []) (by kernel_rfl) trivial) sh68_0 os68_0
noncomputable def cx68 : Cx := ⟨Tryz.prog, [e85], [], 17, [(4, ce68_0)], []⟩
noncomputable def F68 : sh68.D → Option out68.D := func cx68 Tryz.f68 b68 sh68 out68
noncomputable def e68 : FE := ⟨68, sh68, out68, F68⟩
theorem ok68 : FEOK Tryz.prog e68 := func_ok (cx := cx68) (fn := Tryz.f68) (c := b68) (all_fe (P := Tryz.prog) (l := [e85]) ⟨ok85, trivial⟩) (by kernel_rfl) (by kernel_rfl) (by kernel_rfl) (by kernel_rfl) (by kernel_rfl) (needs_of (l := [((.loop (sub [1, 0, 1, 0, 0] b68)), ce68_0)]) (by kernel_rfl) ⟨okc68_0, trivial⟩)
@[reducible] def sh108 : Shape := ⟨[(0, .one (.d .str))], []⟩
@[reducible] def out108 : Shape := ⟨[(0, .one (.d .bool))], []⟩
noncomputable def b108 : Code := Tryz.f108.body.getD .skip
@[reducible] def sh108_0 : Shape := ⟨[(0, .one (.d .str)), (3, .one (.d (.int .i64)))], []⟩
@[reducible] def os108_0 : List (XE × Shape) := [(.ret, ⟨[(2, .one (.d .bool))], []⟩), (.ex 0, ⟨[], []⟩)]
noncomputable def cx108_0 : Cx := ⟨Tryz.prog, [e68, e85, e126], [], 38, [], []⟩
noncomputable def B108_0 : sh108_0.D → Option (sh108_0.D ⊕ OutsD os108_0) := round cx108_0 (sub [1, 1, 0, 1, 0, 0] b108) sh108_0 os108_0
noncomputable def ce108_0 : CE := ⟨sh108_0, os108_0, loop B108_0⟩
theorem okc108_0 : CEOK Tryz.prog 38 (.loop (sub [1, 1, 0, 1, 0, 0] b108)) ce108_0 := round_ok (cx := cx108_0) (fun R => step_sound (all_fe (P := Tryz.prog) (l := [e68, e85, e126]) ⟨ok68, ok85, ok126, trivial⟩) R) (needs_of (l := []) (by kernel_rfl) trivial) sh108_0 os108_0
noncomputable def cx108 : Cx := ⟨Tryz.prog, [e68, e85, e126], [], 38, [(8, ce108_0)], []⟩
noncomputable def F108 : sh108.D → Option out108.D := func cx108 Tryz.f108 b108 sh108 out108
noncomputable def e108 : FE := ⟨108, sh108, out108, F108⟩
theorem ok108 : FEOK Tryz.prog e108 := func_ok (cx := cx108) (fn := Tryz.f108) (c := b108) (all_fe (P := Tryz.prog) (l := [e68, e85, e126]) ⟨ok68, ok85, ok126, trivial⟩) (by kernel_rfl) (by kernel_rfl) (by kernel_rfl) (by kernel_rfl) (by kernel_rfl) (needs_of (l := [((.loop (sub [1, 1, 0, 1, 0, 0] b108)), ce108_0)]) (by kernel_rfl) ⟨okc108_0, trivial⟩)
@[reducible] def sh47 : Shape := ⟨[(0, .one (.d .str))], []⟩
@[reducible] def out47 : Shape := ⟨[(0, .one (.d (.list .str)))], []⟩
noncomputable def b47 : Code := Tryz.f47.body.getD .skip
@[reducible] def sh47_0 : Shape := ⟨[(0, .one (.d .str)), (3, .one (.own 200000)), (4, .one (.d (.int .i64))), (5, .one (.d (.int .i64)))], [(200000, .lst 9 .str true)]⟩
@[reducible] def os47_0 : List (XE × Shape) := [(.ex 0, ⟨[(3, .one (.own 200000))], [(200000, .lst 9 .str true)]⟩)]
noncomputable def cx47_0 : Cx := ⟨Tryz.prog, [], [], 32, [], []⟩
noncomputable def B47_0 : sh47_0.D → Option (sh47_0.D ⊕ OutsD os47_0) := round cx47_0 (sub [1, 1, 1, 0, 1, 0, 0] b47) sh47_0 os47_0
noncomputable def ce47_0 : CE := ⟨sh47_0, os47_0, loop B47_0⟩
theorem okc47_0 : CEOK Tryz.prog 32 (.loop (sub [1, 1, 1, 0, 1, 0, 0] b47)) ce47_0 := round_ok (cx := cx47_0) (fun R => step_sound (all_fe (P := Tryz.prog) (l := []) trivial) R) (needs_of (l := []) (by kernel_rfl) trivial) sh47_0 os47_0
noncomputable def cx47 : Cx := ⟨Tryz.prog, [], [], 32, [(8, ce47_0)], []⟩
noncomputable def F47 : sh47.D → Option out47.D := func cx47 Tryz.f47 b47 sh47 out47
noncomputable def e47 : FE := ⟨47, sh47, out47, F47⟩
theorem ok47 : FEOK Tryz.prog e47 := func_ok (cx := cx47) (fn := Tryz.f47) (c := b47) (all_fe (P := Tryz.prog) (l := []) trivial) (by kernel_rfl) (by kernel_rfl) (by kernel_rfl) (by kernel_rfl) (by kernel_rfl) (needs_of (l := [((.loop (sub [1, 1, 1, 0, 1, 0, 0] b47)), ce47_0)]) (by kernel_rfl) ⟨okc47_0, trivial⟩)
@[reducible] def sh80 : Shape := ⟨[(0, .row [.d (.int .i64), .d (.int .i64), .d (.int .i64), .d .str])], []⟩
@[reducible] def out80 : Shape := ⟨[(0, .one (.d .bool))], []⟩
noncomputable def b80 : Code := Tryz.f80.body.getD .skip
@[reducible] def sh80_0 : Shape := ⟨[(3, .one (.d (.list .str))), (4, .one (.d (.int .i64)))], []⟩
@[reducible] def os80_0 : List (XE × Shape) := [(.ret, ⟨[(2, .one (.d .bool))], []⟩), (.ex 0, ⟨[], []⟩)]
noncomputable def cx80_0 : Cx := ⟨Tryz.prog, [e47, e108], [], 52, [], []⟩
noncomputable def B80_0 : sh80_0.D → Option (sh80_0.D ⊕ OutsD os80_0) := round cx80_0 (sub [1, 1, 1, 1, 0, 1, 0, 0] b80) sh80_0 os80_0
noncomputable def ce80_0 : CE := ⟨sh80_0, os80_0, loop B80_0⟩
theorem okc80_0 : CEOK Tryz.prog 52 (.loop (sub [1, 1, 1, 1, 0, 1, 0, 0] b80)) ce80_0 := round_ok (cx := cx80_0) (fun R => step_sound (all_fe (P := Tryz.prog) (l := [e47, e108]) ⟨ok47, ok108, trivial⟩) R) (needs_of (l := []) (by kernel_rfl) trivial) sh80_0 os80_0
noncomputable def cx80 : Cx := ⟨Tryz.prog, [e47, e108], [], 52, [(14, ce80_0)], []⟩
noncomputable def F80 : sh80.D → Option out80.D := func cx80 Tryz.f80 b80 sh80 out80
noncomputable def e80 : FE := ⟨80, sh80, out80, F80⟩
theorem ok80 : FEOK Tryz.prog e80 := func_ok (cx := cx80) (fn := Tryz.f80) (c := b80) (all_fe (P := Tryz.prog) (l := [e47, e108]) ⟨ok47, ok108, trivial⟩) (by kernel_rfl) (by kernel_rfl) (by kernel_rfl) (by kernel_rfl) (by kernel_rfl) (needs_of (l := [((.loop (sub [1, 1, 1, 1, 0, 1, 0, 0] b80)), ce80_0)]) (by kernel_rfl) ⟨okc80_0, trivial⟩)
@[reducible] def sh60 : Shape := ⟨[(0, .one (.d .bool)), (1, .row [.d (.int .i64), .d (.int .i64), .d (.int .i64), .d .str]), (2, .one (.d (.int .i64))), (3, .one (.d .str))], []⟩
@[reducible] def out60 : Shape := ⟨[(0, .row [.d (.int .i64), .d (.int .i64), .d (.int .i64), .d .str]), (1, .one (.d .bool))], []⟩
noncomputable def b60 : Code := Tryz.f60.body.getD .skip
@[reducible] def sh60_0 : Shape := ⟨[(0, .one (.d .bool)), (3, .one (.d .str)), (5, .one (.ptr 200000 0)), (8, .one (.ptr 200001 0)), (10, .one (.d .str))], [(200000, .box [.d (.int .i64), .d (.int .i64), .d (.int .i64), .d .str]), (200001, .box [.d (.int .i64), .d (.int .i64), .d (.int .i64), .d .str])]⟩
@[reducible] def os60_0 : List (XE × Shape) := [(.ex 0, ⟨[(0, .one (.d .bool)), (3, .one (.d .str)), (5, .one (.ptr 200000 0)), (8, .one (.ptr 200001 0)), (10, .one (.d .str))], [(200000, .box [.d (.int .i64), .d (.int .i64), .d (.int .i64), .d .str]), (200001, .box [.d (.int .i64), .d (.int .i64), .d (.int .i64), .d .str])]⟩)]
noncomputable def cx60_0 : Cx := ⟨Tryz.prog, [e37, e79, e80], [], 62, [], []⟩
noncomputable def B60_0 : sh60_0.D → Option (sh60_0.D ⊕ OutsD os60_0) := round cx60_0 (sub [1, 1, 1, 0, 0, 0] b60) sh60_0 os60_0
noncomputable def ce60_0 : CE := ⟨sh60_0, os60_0, loop B60_0⟩
theorem okc60_0 : CEOK Tryz.prog 62 (.loop (sub [1, 1, 1, 0, 0, 0] b60)) ce60_0 := round_ok (cx := cx60_0) (fun R => step_sound (all_fe (P := Tryz.prog) (l := [e37, e79, e80]) ⟨ok37, ok79, ok80, trivial⟩) R) (needs_of (l := []) (by kernel_rfl) trivial) sh60_0 os60_0
noncomputable def cx60 : Cx := ⟨Tryz.prog, [e37, e79, e80], [], 62, [(8, ce60_0)], []⟩
noncomputable def F60 : sh60.D → Option out60.D := func cx60 Tryz.f60 b60 sh60 out60
noncomputable def e60 : FE := ⟨60, sh60, out60, F60⟩
theorem ok60 : FEOK Tryz.prog e60 := func_ok (cx := cx60) (fn := Tryz.f60) (c := b60) (all_fe (P := Tryz.prog) (l := [e37, e79, e80]) ⟨ok37, ok79, ok80, trivial⟩) (by kernel_rfl) (by kernel_rfl) (by kernel_rfl) (by kernel_rfl) (by kernel_rfl) (needs_of (l := [((.loop (sub [1, 1, 1, 0, 0, 0] b60)), ce60_0)]) (by kernel_rfl) ⟨okc60_0, trivial⟩)
@[reducible] def sh36 : Shape := ⟨[(0, .one (.d (.int .i64)))], []⟩
@[reducible] def out36 : Shape := ⟨[(0, .row [.d (.int .i64), .d (.int .i64), .d (.int .i64), .d .str])], []⟩
noncomputable def b36 : Code := Tryz.f36.body.getD .skip
noncomputable def cx36 : Cx := ⟨Tryz.prog, [e35, e38, e60], [], 17, [], []⟩
noncomputable def F36 : sh36.D → Option out36.D := func cx36 Tryz.f36 b36 sh36 out36
noncomputable def e36 : FE := ⟨36, sh36, out36, F36⟩
theorem ok36 : FEOK Tryz.prog e36 := func_ok (cx := cx36) (fn := Tryz.f36) (c := b36) (all_fe (P := Tryz.prog) (l := [e35, e38, e60]) ⟨ok35, ok38, ok60, trivial⟩) (by kernel_rfl) (by kernel_rfl) (by kernel_rfl) (by kernel_rfl) (by kernel_rfl) (needs_of (l := []) (by kernel_rfl) trivial)
@[reducible] def sh14 : Shape := ⟨[(0, .one (.d (.int .i64))), (1, .one (.d (.list (.int .i64)))), (2, .one (.d .bool))], []⟩
@[reducible] def out14 : Shape := ⟨[(0, .row [.d (.list r2), .d (.list r3)])], []⟩
noncomputable def b14 : Code := Tryz.f14.body.getD .skip
@[reducible] def sh14_0 : Shape := ⟨[(1, .one (.d (.list (.int .i64)))), (2, .one (.d .bool)), (6, .one (.ptr 200000 0)), (7, .one (.ptr 200001 0)), (8, .one (.d (.int .i64))), (9, .one (.d (.int .i64))), (10, .one (.d (.int .i64))), (11, .one (.d .str)), (12, .one (.d (.int .i64))), (13, .one (.own 200002)), (14, .one (.ptr 200003 0)), (15, .one (.d (.int .i64))), (16, .one (.ptr 200004 0)), (17, .one (.d (.int .i64)))], [(200000, .box [.nilS, .nilS]), (200001, .box [.own 200005, .own 200006]), (200002, .lst 39 r5 true), (200003, .box [.d .str, .own 200007]), (200004, .box [.d (.int .i64), .d (.int .i64), .d (.int .i64), .d .str, .own 200008, .d .str, .d .str]), (200005, .lst 36 r2 true), (200006, .lst 80 r3 true), (200007, .lst 41 r1 true), (200008, .lst 43 r0 true)]⟩
@[reducible] def os14_0 : List (XE × Shape) := [(.ex 4, ⟨[(1, .one (.d (.list (.int .i64)))), (2, .one (.d .bool)), (6, .one (.ptr 200000 0)), (7, .one (.ptr 200001 0)), (8, .one (.d (.int .i64))), (9, .one (.d (.int .i64))), (10, .one (.d (.int .i64))), (11, .one (.d .str)), (12, .one (.d (.int .i64))), (13, .one (.own 200002)), (14, .one (.ptr 200003 0)), (15, .one (.d (.int .i64))), (16, .one (.ptr 200004 0))], [(200000, .box [.nilS, .nilS]), (200001, .box [.own 200005, .own 200006]), (200002, .lst 39 r5 true), (200003, .box [.d .str, .own 200007]), (200004, .box [.d (.int .i64), .d (.int .i64), .d (.int .i64), .d .str, .own 200008, .d .str, .d .str]), (200005, .lst 36 r2 true), (200006, .lst 80 r3 true), (200007, .lst 41 r1 true), (200008, .lst 43 r0 true)]⟩)]
noncomputable def cx14_0 : Cx := ⟨Tryz.prog, [e33, e34, e35, e36, e37, e38], [], 208, [], []⟩
noncomputable def B14_0 : sh14_0.D → Option (sh14_0.D ⊕ OutsD os14_0) := round cx14_0 (sub [1, 1, 1, 1, 0, 1, 0, 0, 1, 0, 0, 1, 1, 1, 1, 1, 0, 1, 0, 0, 1, 0, 0, 1, 0, 1, 0, 0] b14) sh14_0 os14_0
noncomputable def ce14_0 : CE := ⟨sh14_0, os14_0, loop B14_0⟩
theorem okc14_0 : CEOK Tryz.prog 208 (.loop (sub [1, 1, 1, 1, 0, 1, 0, 0, 1, 0, 0, 1, 1, 1, 1, 1, 0, 1, 0, 0, 1, 0, 0, 1, 0, 1, 0, 0] b14)) ce14_0 := round_ok (cx := cx14_0) (fun R => step_sound (all_fe (P := Tryz.prog) (l := [e33, e34, e35, e36, e37, e38]) ⟨ok33, ok34, ok35, ok36, ok37, ok38, trivial⟩) R) (needs_of (l := []) (by kernel_rfl) trivial) sh14_0 os14_0
@[reducible] def sh14_1 : Shape := ⟨[(1, .one (.d (.list (.int .i64)))), (2, .one (.d .bool)), (6, .one (.ptr 200000 0)), (7, .one (.ptr 200001 0)), (8, .one (.d (.int .i64))), (9, .one (.d (.int .i64))), (10, .one (.d (.int .i64))), (11, .one (.d .str)), (12, .one (.d (.int .i64))), (13, .one (.own 200002)), (14, .one (.ptr 200003 0)), (15, .one (.d (.int .i64)))], [(200000, .box [.nilS, .nilS]), (200001, .box [.own 200004, .own 200005]), (200002, .lst 39 r5 true), (200003, .box [.d .str, .own 200006]), (200004, .lst 36 r2 true), (200005, .lst 80 r3 true), (200006, .lst 41 r1 true)]⟩
@[reducible] def os14_1 : List (XE × Shape) := [(.ex 2, ⟨[(1, .one (.d (.list (.int .i64)))), (2, .one (.d .bool)), (6, .one (.ptr 200000 0)), (7, .one (.ptr 200001 0)), (8, .one (.d (.int .i64))), (9, .one (.d (.int .i64))), (10, .one (.d (.int .i64))), (11, .one (.d .str)), (12, .one (.d (.int .i64))), (14, .one (.ptr 200002 0))], [(200000, .box [.nilS, .nilS]), (200001, .box [.own 200003, .own 200004]), (200002, .box [.d .str, .own 200005]), (200003, .lst 36 r2 true), (200004, .lst 80 r3 true), (200005, .lst 41 r1 true)]⟩)]
noncomputable def cx14_1 : Cx := ⟨Tryz.prog, [e33, e34, e35, e36, e37, e38], [], 208, [(36, ce14_0)], []⟩
noncomputable def B14_1 : sh14_1.D → Option (sh14_1.D ⊕ OutsD os14_1) := round cx14_1 (sub [1, 1, 1, 1, 0, 1, 0, 0, 1, 0, 0, 1, 1, 1, 1, 1, 0, 1, 0, 0] b14) sh14_1 os14_1
noncomputable def ce14_1 : CE := ⟨sh14_1, os14_1, loop B14_1⟩
theorem okc14_1 : CEOK Tryz.prog 208 (.loop (sub [1, 1, 1, 1, 0, 1, 0, 0, 1, 0, 0, 1, 1, 1, 1, 1, 0, 1, 0, 0] b14)) ce14_1 := round_ok (cx := cx14_1) (fun R => step_sound (all_fe (P := Tryz.prog) (l := [e33, e34, e35, e36, e37, e38]) ⟨ok33, ok34, ok35, ok36, ok37, ok38, trivial⟩) R) (needs_of (l := [((.loop (sub [1, 1, 1, 1, 0, 1, 0, 0, 1, 0, 0, 1, 1, 1, 1, 1, 0, 1, 0, 0, 1, 0, 0, 1, 0, 1, 0, 0] b14)), ce14_0)]) (by kernel_rfl) ⟨okc14_0, trivial⟩) sh14_1 os14_1
@[reducible] def sh14_2 : Shape := ⟨[(1, .one (.d (.list (.int .i64)))), (2, .one (.d .bool)), (6, .one (.ptr 200000 0)), (7, .one (.ptr 200001 0)), (8, .one (.d (.int .i64))), (9, .one (.d (.int .i64))), (10, .one (.d (.int .i64)))], [(200000, .box [.nilS, .nilS]), (200001, .box [.own 200002, .own 200003]), (200002, .lst 36 r2 true), (200003, .lst 80 r3 true)]⟩
@[reducible] def os14_2 : List (XE × Shape) := [(.ex 0, ⟨[(6, .one (.ptr 200000 0)), (7, .one (.ptr 200001 0))], [(200000, .box [.nilS, .nilS]), (200001, .box [.own 200002, .own 200003]), (200002, .lst 36 r2 true), (200003, .lst 80 r3 true)]⟩)]
noncomputable def cx14_2 : Cx := ⟨Tryz.prog, [e33, e34, e35, e36, e37, e38], [], 208, [(36, ce14_0), (28, ce14_1)], []⟩
noncomputable def B14_2 : sh14_2.D → Option (sh14_2.D ⊕ OutsD os14_2) := round cx14_2 (sub [1, 1, 1, 1, 0, 1, 0, 0] b14) sh14_2 os14_2
noncomputable def ce14_2 : CE := ⟨sh14_2, os14_2, loop B14_2⟩
theorem okc14_2 : CEOK Tryz.prog 208 (.loop (sub [1, 1, 1, 1, 0, 1, 0, 0] b14)) ce14_2 := round_ok (cx := cx14_2) (fun R => step_sound (all_fe (P := Tryz.prog) (l := [e33, e34, e35, e36, e37, e38]) ⟨ok33, ok34, ok35, ok36, ok37, ok38, trivial⟩) R) (needs_of (l := [((.loop (sub [1, 1, 1, 1, 0, 1, 0, 0, 1, 0, 0, 1, 1, 1, 1, 1, 0, 1, 0, 0] b14)), ce14_1)]) (by kernel_rfl) ⟨okc14_1, trivial⟩) sh14_2 os14_2
noncomputable def cx14 : Cx := ⟨Tryz.prog, [e33, e34, e35, e36, e37, e38], [], 208, [(36, ce14_0), (28, ce14_1), (10, ce14_2)], []⟩
noncomputable def F14 : sh14.D → Option out14.D := func cx14 Tryz.f14 b14 sh14 out14
noncomputable def e14 : FE := ⟨14, sh14, out14, F14⟩
theorem ok14 : FEOK Tryz.prog e14 := func_ok (cx := cx14) (fn := Tryz.f14) (c := b14) (all_fe (P := Tryz.prog) (l := [e33, e34, e35, e36, e37, e38]) ⟨ok33, ok34, ok35, ok36, ok37, ok38, trivial⟩) (by kernel_rfl) (by kernel_rfl) (by kernel_rfl) (by kernel_rfl) (by kernel_rfl) (needs_of (l := [((.loop (sub [1, 1, 1, 1, 0, 1, 0, 0] b14)), ce14_2)]) (by kernel_rfl) ⟨okc14_2, trivial⟩)
@[reducible] def sh16 : Shape := ⟨[(0, .one (.d (.int .i64))), (1, .one (.d (.int .i64)))], []⟩
@[reducible] def out16 : Shape := ⟨[(0, .one (.d (.int .i64)))], []⟩
noncomputable def b16 : Code := Tryz.f16.body.getD .skip
noncomputable def cx16 : Cx := ⟨Tryz.prog, [], [], 15, [], []⟩
noncomputable def F16 : sh16.D → Option out16.D := func cx16 Tryz.f16 b16 sh16 out16
noncomputable def e16 : FE := ⟨16, sh16, out16, F16⟩
theorem ok16 : FEOK Tryz.prog e16 := func_ok (cx := cx16) (fn := Tryz.f16) (c := b16) (all_fe (P := Tryz.prog) (l := []) trivial) (by kernel_rfl) (by kernel_rfl) (by kernel_rfl) (by kernel_rfl) (by kernel_rfl) (needs_of (l := []) (by kernel_rfl) trivial)
@[reducible] def sh24 : Shape := ⟨[(0, .row [.d .str, .d (.list r0), .d (.list r0), .d (.list r4)])], []⟩
@[reducible] def out24 : Shape := ⟨[(0, .row [.d .str, .d (.list r0), .d (.list r0), .d (.list r4)])], []⟩
noncomputable def b24 : Code := Tryz.f24.body.getD .skip
@[reducible] def sh24_0 : Shape := ⟨[(1, .one (.ptr 200000 0)), (2, .one (.ptr 200001 0)), (3, .one (.ptr 200002 0)), (4, .one (.d (.int .i64)))], [(200000, .box [.d .str, .d (.list r0), .d (.list r0), .d (.list r4)]), (200001, .box [.d .str, .nilS, .nilS, .nilS]), (200002, .box [.d .str, .own 200003, .d (.list r0), .nilS]), (200003, .lst 43 r0 true)]⟩
@[reducible] def os24_0 : List (XE × Shape) := [(.ex 0, ⟨[(1, .one (.ptr 200000 0)), (2, .one (.ptr 200001 0)), (3, .one (.ptr 200002 0))], [(200000, .box [.d .str, .d (.list r0), .d (.list r0), .d (.list r4)]), (200001, .box [.d .str, .nilS, .nilS, .nilS]), (200002, .box [.d .str, .own 200003, .d (.list r0), .nilS]), (200003, .lst 43 r0 true)]⟩)]
noncomputable def cx24_0 : Cx := ⟨Tryz.prog, [], [], 112, [], []⟩
noncomputable def B24_0 : sh24_0.D → Option (sh24_0.D ⊕ OutsD os24_0) := round cx24_0 (sub [1, 1, 0, 1, 0, 0] b24) sh24_0 os24_0
noncomputable def ce24_0 : CE := ⟨sh24_0, os24_0, loop B24_0⟩
theorem okc24_0 : CEOK Tryz.prog 112 (.loop (sub [1, 1, 0, 1, 0, 0] b24)) ce24_0 := round_ok (cx := cx24_0) (fun R => step_sound (all_fe (P := Tryz.prog) (l := []) trivial) R) (needs_of (l := []) (by kernel_rfl) trivial) sh24_0 os24_0
@[reducible] def sh24_1 : Shape := ⟨[(1, .one (.ptr 200000 0)), (2, .one (.ptr 200001 0)), (3, .one (.ptr 200002 0)), (6, .one (.d (.int .i64)))], [(200000, .box [.d .str, .d (.list r0), .d (.list r0), .d (.list r4)]), (200001, .box [.d .str, .nilS, .nilS, .nilS]), (200002, .box [.d .str, .own 200003, .d (.list r0), .own 200004]), (200003, .lst 43 r0 true), (200004, .lst 82 r4 true)]⟩
@[reducible] def os24_1 : List (XE × Shape) := [(.ex 2, ⟨[(2, .one (.ptr 200000 0)), (3, .one (.ptr 200001 0))], [(200000, .box [.d .str, .nilS, .nilS, .nilS]), (200001, .box [.d .str, .own 200002, .d (.list r0), .own 200003]), (200002, .lst 43 r0 true), (200003, .lst 82 r4 true)]⟩)]
noncomputable def cx24_1 : Cx := ⟨Tryz.prog, [], [], 112, [(6, ce24_0)], []⟩
noncomputable def B24_1 : sh24_1.D → Option (sh24_1.D ⊕ OutsD os24_1) := round cx24_1 (sub [1, 1, 1, 0, 1, 0, 0] b24) sh24_1 os24_1
noncomputable def ce24_1 : CE := ⟨sh24_1, os24_1, loop B24_1⟩
theorem okc24_1 : CEOK Tryz.prog 112 (.loop (sub [1, 1, 1, 0, 1, 0, 0] b24)) ce24_1 := round_ok (cx := cx24_1) (fun R => step_sound (all_fe (P := Tryz.prog) (l := []) trivial) R) (needs_of (l := []) (by kernel_rfl) trivial) sh24_1 os24_1
noncomputable def cx24 : Cx := ⟨Tryz.prog, [], [], 112, [(6, ce24_0), (18, ce24_1)], []⟩
noncomputable def F24 : sh24.D → Option out24.D := func cx24 Tryz.f24 b24 sh24 out24
noncomputable def e24 : FE := ⟨24, sh24, out24, F24⟩
theorem ok24 : FEOK Tryz.prog e24 := func_ok (cx := cx24) (fn := Tryz.f24) (c := b24) (all_fe (P := Tryz.prog) (l := []) trivial) (by kernel_rfl) (by kernel_rfl) (by kernel_rfl) (by kernel_rfl) (by kernel_rfl) (needs_of (l := [((.loop (sub [1, 1, 0, 1, 0, 0] b24)), ce24_0), ((.loop (sub [1, 1, 1, 0, 1, 0, 0] b24)), ce24_1)]) (by kernel_rfl) ⟨okc24_0, okc24_1, trivial⟩)
@[reducible] def sh46 : Shape := ⟨[(0, .one (.d (.int .i64))), (1, .one (.d (.int .i64)))], []⟩
@[reducible] def out46 : Shape := ⟨[(0, .one (.d (.int .i64)))], []⟩
noncomputable def b46 : Code := Tryz.f46.body.getD .skip
noncomputable def cx46 : Cx := ⟨Tryz.prog, [], [], 11, [], []⟩
noncomputable def F46 : sh46.D → Option out46.D := func cx46 Tryz.f46 b46 sh46 out46
noncomputable def e46 : FE := ⟨46, sh46, out46, F46⟩
theorem ok46 : FEOK Tryz.prog e46 := func_ok (cx := cx46) (fn := Tryz.f46) (c := b46) (all_fe (P := Tryz.prog) (l := []) trivial) (by kernel_rfl) (by kernel_rfl) (by kernel_rfl) (by kernel_rfl) (by kernel_rfl) (needs_of (l := []) (by kernel_rfl) trivial)
@[reducible] def sh48 : Shape := ⟨[(0, .one (.d .str)), (1, .one (.d .str))], []⟩
@[reducible] def out48 : Shape := ⟨[(0, .one (.d (.int .i64)))], []⟩
noncomputable def b48 : Code := Tryz.f48.body.getD .skip
noncomputable def cx48 : Cx := ⟨Tryz.prog, [e46, e68], [], 37, [], []⟩
noncomputable def F48 : sh48.D → Option out48.D := func cx48 Tryz.f48 b48 sh48 out48
noncomputable def e48 : FE := ⟨48, sh48, out48, F48⟩
theorem ok48 : FEOK Tryz.prog e48 := func_ok (cx := cx48) (fn := Tryz.f48) (c := b48) (all_fe (P := Tryz.prog) (l := [e46, e68]) ⟨ok46, ok68, trivial⟩) (by kernel_rfl) (by kernel_rfl) (by kernel_rfl) (by kernel_rfl) (by kernel_rfl) (needs_of (l := []) (by kernel_rfl) trivial)
@[reducible] def sh21 : Shape := ⟨[(0, .row [.d (.int .i64), .d (.int .i64), .d (.int .i64), .d .str]), (1, .row [.d (.int .i64), .d (.int .i64), .d (.int .i64), .d .str])], []⟩
@[reducible] def out21 : Shape := ⟨[(0, .one (.d (.int .i64)))], []⟩
noncomputable def b21 : Code := Tryz.f21.body.getD .skip
@[reducible] def sh21_0 : Shape := ⟨[(2, .one (.ptr 200000 0)), (3, .one (.ptr 200001 0)), (5, .one (.own 200002)), (6, .one (.d (.int .i64)))], [(200000, .box [.d (.int .i64), .d (.int .i64), .d (.int .i64), .d .str]), (200001, .box [.d (.int .i64), .d (.int .i64), .d (.int .i64), .d .str]), (200002, .lst 3 (.int .i64) true)]⟩
@[reducible] def os21_0 : List (XE × Shape) := [(.ret, ⟨[(4, .one (.d (.int .i64)))], []⟩), (.ex 0, ⟨[(2, .one (.ptr 200000 0)), (3, .one (.ptr 200001 0))], [(200000, .box [.d (.int .i64), .d (.int .i64), .d (.int .i64), .d .str]), (200001, .box [.d (.int .i64), .d (.int .i64), .d (.int .i64), .d .str])]⟩)]
noncomputable def cx21_0 : Cx := ⟨Tryz.prog, [e46, e47, e48], [], 99, [], []⟩
noncomputable def B21_0 : sh21_0.D → Option (sh21_0.D ⊕ OutsD os21_0) := round cx21_0 (sub [1, 1, 0, 1, 0, 0] b21) sh21_0 os21_0
noncomputable def ce21_0 : CE := ⟨sh21_0, os21_0, loop B21_0⟩
theorem okc21_0 : CEOK Tryz.prog 99 (.loop (sub [1, 1, 0, 1, 0, 0] b21)) ce21_0 := round_ok (cx := cx21_0) (fun R => step_sound (all_fe (P := Tryz.prog) (l := [e46, e47, e48]) ⟨ok46, ok47, ok48, trivial⟩) R) (needs_of (l := []) (by kernel_rfl) trivial) sh21_0 os21_0
@[reducible] def sh21_1 : Shape := ⟨[(7, .one (.d (.list .str))), (8, .one (.d (.list .str))), (9, .one (.d (.int .i64)))], []⟩
@[reducible] def os21_1 : List (XE × Shape) := [(.ret, ⟨[(4, .one (.d (.int .i64)))], []⟩), (.ex 2, ⟨[(7, .one (.d (.list .str))), (8, .one (.d (.list .str)))], []⟩)]
noncomputable def cx21_1 : Cx := ⟨Tryz.prog, [e46, e47, e48], [], 99, [(6, ce21_0)], []⟩
noncomputable def B21_1 : sh21_1.D → Option (sh21_1.D ⊕ OutsD os21_1) := round cx21_1 (sub [1, 1, 1, 1, 1, 0, 1, 0, 0] b21) sh21_1 os21_1
noncomputable def ce21_1 : CE := ⟨sh21_1, os21_1, loop B21_1⟩
theorem okc21_1 : CEOK Tryz.prog 99 (.loop (sub [1, 1, 1, 1, 1, 0, 1, 0, 0] b21)) ce21_1 := round_ok (cx := cx21_1) (fun R => step_sound (all_fe (P := Tryz.prog) (l := [e46, e47, e48]) ⟨ok46, ok47, ok48, trivial⟩) R) (needs_of (l := []) (by kernel_rfl) trivial) sh21_1 os21_1
noncomputable def cx21 : Cx := ⟨Tryz.prog, [e46, e47, e48], [], 99, [(6, ce21_0), (22, ce21_1)], []⟩
noncomputable def F21 : sh21.D → Option out21.D := func cx21 Tryz.f21 b21 sh21 out21
noncomputable def e21 : FE := ⟨21, sh21, out21, F21⟩
theorem ok21 : FEOK Tryz.prog e21 := func_ok (cx := cx21) (fn := Tryz.f21) (c := b21) (all_fe (P := Tryz.prog) (l := [e46, e47, e48]) ⟨ok46, ok47, ok48, trivial⟩) (by kernel_rfl) (by kernel_rfl) (by kernel_rfl) (by kernel_rfl) (by kernel_rfl) (needs_of (l := [((.loop (sub [1, 1, 0, 1, 0, 0] b21)), ce21_0), ((.loop (sub [1, 1, 1, 1, 1, 0, 1, 0, 0] b21)), ce21_1)]) (by kernel_rfl) ⟨okc21_0, okc21_1, trivial⟩)
@[reducible] def sh40 : Shape := ⟨[(0, .row [.d .str, .d (.int .i64), .d (.int .i64), .d (.int .i64), .d .str]), (1, .row [.d .str, .d (.int .i64), .d (.int .i64), .d (.int .i64), .d .str])], []⟩
@[reducible] def out40 : Shape := ⟨[(0, .one (.d .bool))], []⟩
noncomputable def b40 : Code := Tryz.f40.body.getD .skip
noncomputable def cx40 : Cx := ⟨Tryz.prog, [e21], [], 25, [], []⟩
noncomputable def F40 : sh40.D → Option out40.D := func cx40 Tryz.f40 b40 sh40 out40
noncomputable def e40 : FE := ⟨40, sh40, out40, F40⟩
theorem ok40 : FEOK Tryz.prog e40 := func_ok (cx := cx40) (fn := Tryz.f40) (c := b40) (all_fe (P := Tryz.prog) (l := [e21]) ⟨ok21, trivial⟩) (by kernel_rfl) (by kernel_rfl) (by kernel_rfl) (by kernel_rfl) (by kernel_rfl) (needs_of (l := []) (by kernel_rfl) trivial)
@[reducible] def sh17 : Shape := ⟨[(0, .one (.d (.list r0)))], []⟩
@[reducible] def out17 : Shape := ⟨[(0, .one (.own 200000))], [(200000, .lst 43 r0 true)]⟩
noncomputable def b17 : Code := Tryz.f17.body.getD .skip
@[reducible] def sh17_0 : Shape := ⟨[(0, .one (.d (.list r0))), (3, .one (.own 200000)), (4, .one (.d (.int .i64))), (5, .one (.d (.int .i64)))], [(200000, .lst 43 r0 true)]⟩
@[reducible] def os17_0 : List (XE × Shape) := [(.ex 2, ⟨[(0, .one (.d (.list r0))), (3, .one (.own 200000)), (4, .one (.d (.int .i64))), (5, .one (.d (.int .i64)))], [(200000, .lst 43 r0 true)]⟩)]
noncomputable def cx17_0 : Cx := ⟨Tryz.prog, [e40], [], 60, [], []⟩
noncomputable def B17_0 : sh17_0.D → Option (sh17_0.D ⊕ OutsD os17_0) := round cx17_0 (sub [1, 1, 0, 1, 0, 0, 1, 0, 0, 1, 0, 0, 0] b17) sh17_0 os17_0
noncomputable def ce17_0 : CE := ⟨sh17_0, os17_0, loop B17_0⟩
theorem okc17_0 : CEOK Tryz.prog 60 (.loop (sub [1, 1, 0, 1, 0, 0, 1, 0, 0, 1, 0, 0, 0] b17)) ce17_0 := round_ok (cx := cx17_0) (fun R => step_sound (all_fe (P := Tryz.prog) (l := [e40]) ⟨ok40, trivial⟩) R) (needs_of (l := []) (by kernel_rfl) trivial) sh17_0 os17_0
@[reducible] def sh17_1 : Shape := ⟨[(0, .one (.d (.list r0))), (3, .one (.own 200000)), (4, .one (.d (.int .i64)))], [(200000, .lst 43 r0 true)]⟩
@[reducible] def os17_1 : List (XE × Shape) := [(.ex 0, ⟨[(3, .one (.own 200000))], [(200000, .lst 43 r0 true)]⟩)]
noncomputable def cx17_1 : Cx := ⟨Tryz.prog, [e40], [], 60, [(12, ce17_0)], []⟩
noncomputable def B17_1 : sh17_1.D → Option (sh17_1.D ⊕ OutsD os17_1) := round cx17_1 (sub [1, 1, 0, 1, 0, 0] b17) sh17_1 os17_1
noncomputable def ce17_1 : CE := ⟨sh17_1, os17_1, loop B17_1⟩
theorem okc17_1 : CEOK Tryz.prog 60 (.loop (sub [1, 1, 0, 1, 0, 0] b17)) ce17_1 := round_ok (cx := cx17_1) (fun R => step_sound (all_fe (P := Tryz.prog) (l := [e40]) ⟨ok40, trivial⟩) R) (needs_of (l := [((.loop (sub [1, 1, 0, 1, 0, 0, 1, 0, 0, 1, 0, 0, 0] b17)), ce17_0)]) (by kernel_rfl) ⟨okc17_0, trivial⟩) sh17_1 os17_1
noncomputable def cx17 : Cx := ⟨Tryz.prog, [e40], [], 60, [(12, ce17_0), (6, ce17_1)], []⟩
noncomputable def F17 : sh17.D → Option out17.D := func cx17 Tryz.f17 b17 sh17 out17
noncomputable def e17 : FE := ⟨17, sh17, out17, F17⟩
theorem ok17 : FEOK Tryz.prog e17 := func_ok (cx := cx17) (fn := Tryz.f17) (c := b17) (all_fe (P := Tryz.prog) (l := [e40]) ⟨ok40, trivial⟩) (by kernel_rfl) (by kernel_rfl) (by kernel_rfl) (by kernel_rfl) (by kernel_rfl) (needs_of (l := [((.loop (sub [1, 1, 0, 1, 0, 0] b17)), ce17_1)]) (by kernel_rfl) ⟨okc17_1, trivial⟩)
@[reducible] def sh81 : Shape := ⟨[(0, .row [.d .str, .d .str, .d (.int .i64), .d (.int .i64), .d (.int .i64), .d .str]), (1, .row [.d .str, .d .str, .d (.int .i64), .d (.int .i64), .d (.int .i64), .d .str])], []⟩
@[reducible] def out81 : Shape := ⟨[(0, .one (.d .bool))], []⟩
noncomputable def b81 : Code := Tryz.f81.body.getD .skip
noncomputable def cx81 : Cx := ⟨Tryz.prog, [e21], [], 35, [], []⟩
noncomputable def F81 : sh81.D → Option out81.D := func cx81 Tryz.f81 b81 sh81 out81
noncomputable def e81 : FE := ⟨81, sh81, out81, F81⟩
theorem ok81 : FEOK Tryz.prog e81 := func_ok (cx := cx81) (fn := Tryz.f81) (c := b81) (all_fe (P := Tryz.prog) (l := [e21]) ⟨ok21, trivial⟩) (by kernel_rfl) (by kernel_rfl) (by kernel_rfl) (by kernel_rfl) (by kernel_rfl) (needs_of (l := []) (by kernel_rfl) trivial)
@[reducible] def sh61 : Shape := ⟨[(0, .one (.d (.list r4)))], []⟩
@[reducible] def out61 : Shape := ⟨[(0, .one (.d (.list r4)))], []⟩
noncomputable def b61 : Code := Tryz.f61.body.getD .skip
@[reducible] def sh61_0 : Shape := ⟨[(0, .one (.d (.list r4))), (3, .one (.own 200000)), (4, .one (.d (.int .i64))), (5, .one (.d (.int .i64)))], [(200000, .lst 82 r4 true)]⟩
@[reducible] def os61_0 : List (XE × Shape) := [(.ex 2, ⟨[(0, .one (.d (.list r4))), (3, .one (.own 200000)), (4, .one (.d (.int .i64))), (5, .one (.d (.int .i64)))], [(200000, .lst 82 r4 true)]⟩)]
noncomputable def cx61_0 : Cx := ⟨Tryz.prog, [e81], [], 60, [], []⟩
noncomputable def B61_0 : sh61_0.D → Option (sh61_0.D ⊕ OutsD os61_0) := round cx61_0 (sub [1, 1, 0, 1, 0, 0, 1, 0, 0, 1, 0, 0, 0] b61) sh61_0 os61_0
noncomputable def ce61_0 : CE := ⟨sh61_0, os61_0, loop B61_0⟩
theorem okc61_0 : CEOK Tryz.prog 60 (.loop (sub [1, 1, 0, 1, 0, 0, 1, 0, 0, 1, 0, 0, 0] b61)) ce61_0 := round_ok (cx := cx61_0) (fun R => step_sound (all_fe (P := Tryz.prog) (l := [e81]) ⟨ok81, trivial⟩) R) (needs_of (l := []) (by kernel_rfl) trivial) sh61_0 os61_0
@[reducible] def sh61_1 : Shape := ⟨[(0, .one (.d (.list r4))), (3, .one (.own 200000)), (4, .one (.d (.int .i64)))], [(200000, .lst 82 r4 true)]⟩
@[reducible] def os61_1 : List (XE × Shape) := [(.ex 0, ⟨[(3, .one (.own 200000))], [(200000, .lst 82 r4 true)]⟩)]
noncomputable def cx61_1 : Cx := ⟨Tryz.prog, [e81], [], 60, [(12, ce61_0)], []⟩
noncomputable def B61_1 : sh61_1.D → Option (sh61_1.D ⊕ OutsD os61_1) := round cx61_1 (sub [1, 1, 0, 1, 0, 0] b61) sh61_1 os61_1
noncomputable def ce61_1 : CE := ⟨sh61_1, os61_1, loop B61_1⟩
theorem okc61_1 : CEOK Tryz.prog 60 (.loop (sub [1, 1, 0, 1, 0, 0] b61)) ce61_1 := round_ok (cx := cx61_1) (fun R => step_sound (all_fe (P := Tryz.prog) (l := [e81]) ⟨ok81, trivial⟩) R) (needs_of (l := [((.loop (sub [1, 1, 0, 1, 0, 0, 1, 0, 0, 1, 0, 0, 0] b61)), ce61_0)]) (by kernel_rfl) ⟨okc61_0, trivial⟩) sh61_1 os61_1
noncomputable def cx61 : Cx := ⟨Tryz.prog, [e81], [], 60, [(12, ce61_0), (6, ce61_1)], []⟩
noncomputable def F61 : sh61.D → Option out61.D := func cx61 Tryz.f61 b61 sh61 out61
noncomputable def e61 : FE := ⟨61, sh61, out61, F61⟩
theorem ok61 : FEOK Tryz.prog e61 := func_ok (cx := cx61) (fn := Tryz.f61) (c := b61) (all_fe (P := Tryz.prog) (l := [e81]) ⟨ok81, trivial⟩) (by kernel_rfl) (by kernel_rfl) (by kernel_rfl) (by kernel_rfl) (by kernel_rfl) (needs_of (l := [((.loop (sub [1, 1, 0, 1, 0, 0] b61)), ce61_1)]) (by kernel_rfl) ⟨okc61_1, trivial⟩)
@[reducible] def sh39 : Shape := ⟨[(0, .row [.d .str, .d (.list r0), .d (.list r0), .d (.list r4)])], []⟩
@[reducible] def out39 : Shape := ⟨[(0, .row [.d .str, .d (.list r0), .d (.list r0), .d (.list r4)])], []⟩
noncomputable def b39 : Code := Tryz.f39.body.getD .skip
noncomputable def cx39 : Cx := ⟨Tryz.prog, [e17, e61], [], 15, [], []⟩
noncomputable def F39 : sh39.D → Option out39.D := func cx39 Tryz.f39 b39 sh39 out39
noncomputable def e39 : FE := ⟨39, sh39, out39, F39⟩
theorem ok39 : FEOK Tryz.prog e39 := func_ok (cx := cx39) (fn := Tryz.f39) (c := b39) (all_fe (P := Tryz.prog) (l := [e17, e61]) ⟨ok17, ok61, trivial⟩) (by kernel_rfl) (by kernel_rfl) (by kernel_rfl) (by kernel_rfl) (by kernel_rfl) (needs_of (l := []) (by kernel_rfl) trivial)
@[reducible] def sh15 : Shape := ⟨[(0, .row [.d (.list r2), .d (.list r3)]), (1, .one (.d (.list (.int .i64))))], []⟩
@[reducible] def out15 : Shape := ⟨[(0, .row [.d .str, .d (.list r0), .d (.list r0), .d (.list r4)])], []⟩
noncomputable def b15 : Code := Tryz.f15.body.getD .skip
@[reducible] def sh15_0 : Shape := ⟨[(1, .one (.d (.list (.int .i64)))), (2, .one (.ptr 200000 0)), (4, .one (.ptr 200001 0)), (5, .one (.ptr 200002 0)), (6, .one (.d (.int .i64)))], [(200000, .box [.d (.list r2), .d (.list r3)]), (200001, .box [.d .str, .nilS, .nilS, .nilS]), (200002, .box [.d .str, .own 200003, .own 200004, .own 200005]), (200003, .lst 43 r0 true), (200004, .lst 43 r0 true), (200005, .lst 82 r4 true)]⟩
@[reducible] def os15_0 : List (XE × Shape) := [(.ex 0, ⟨[(4, .one (.ptr 200000 0)), (5, .one (.ptr 200001 0))], [(200000, .box [.d .str, .nilS, .nilS, .nilS]), (200001, .box [.d .str, .own 200002, .own 200003, .own 200004]), (200002, .lst 43 r0 true), (200003, .lst 43 r0 true), (200004, .lst 82 r4 true)]⟩)]
noncomputable def cx15_0 : Cx := ⟨Tryz.prog, [e16, e24, e39], [], 117, [], []⟩
noncomputable def B15_0 : sh15_0.D → Option (sh15_0.D ⊕ OutsD os15_0) := round cx15_0 (sub [1, 1, 0, 1, 0, 0] b15) sh15_0 os15_0
noncomputable def ce15_0 : CE := ⟨sh15_0, os15_0, loop B15_0⟩
theorem okc15_0 : CEOK Tryz.prog 117 (.loop (sub [1, 1, 0, 1, 0, 0] b15)) ce15_0 := round_ok (cx := cx15_0) (fun R => step_sound (all_fe (P := Tryz.prog) (l := [e16, e24, e39]) ⟨ok16, ok24, ok39, trivial⟩) R) (needs_of (l := []) (by kernel_rfl) trivial) sh15_0 os15_0
noncomputable def cx15 : Cx := ⟨Tryz.prog, [e16, e24, e39], [], 117, [(6, ce15_0)], []⟩
noncomputable def F15 : sh15.D → Option out15.D := func cx15 Tryz.f15 b15 sh15 out15
noncomputable def e15 : FE := ⟨15, sh15, out15, F15⟩
theorem ok15 : FEOK Tryz.prog e15 := func_ok (cx := cx15) (fn := Tryz.f15) (c := b15) (all_fe (P := Tryz.prog) (l := [e16, e24, e39]) ⟨ok16, ok24, ok39, trivial⟩) (by kernel_rfl) (by kernel_rfl) (by kernel_rfl) (by kernel_rfl) (by kernel_rfl) (needs_of (l := [((.loop (sub [1, 1, 0, 1, 0, 0] b15)), ce15_0)]) (by kernel_rfl) ⟨okc15_0, trivial⟩)
@[reducible] def sh62 : Shape := ⟨[(0, .one (.d .str))], []⟩
@[reducible] def out62 : Shape := ⟨[(0, .one (.d (.list .str)))], []⟩
noncomputable def b62 : Code := Tryz.f62.body.getD .skip
@[reducible] def sh62_0 : Shape := ⟨[(0, .one (.d .str)), (3, .one (.own 200000)), (4, .one (.d (.int .i64))), (5, .one (.d (.int .i64)))], [(200000, .lst 9 .str true)]⟩
@[reducible] def os62_0 : List (XE × Shape) := [(.ex 0, ⟨[(3, .one (.own 200000))], [(200000, .lst 9 .str true)]⟩)]
noncomputable def cx62_0 : Cx := ⟨Tryz.prog, [], [], 32, [], []⟩
noncomputable def B62_0 : sh62_0.D → Option (sh62_0.D ⊕ OutsD os62_0) := round cx62_0 (sub [1, 1, 1, 0, 1, 0, 0] b62) sh62_0 os62_0
noncomputable def ce62_0 : CE := ⟨sh62_0, os62_0, loop B62_0⟩
theorem okc62_0 : CEOK Tryz.prog 32 (.loop (sub [1, 1, 1, 0, 1, 0, 0] b62)) ce62_0 := round_ok (cx := cx62_0) (fun R => step_sound (all_fe (P := Tryz.prog) (l := []) trivial) R) (needs_of (l := []) (by kernel_rfl) trivial) sh62_0 os62_0
noncomputable def cx62 : Cx := ⟨Tryz.prog, [], [], 32, [(8, ce62_0)], []⟩
noncomputable def F62 : sh62.D → Option out62.D := func cx62 Tryz.f62 b62 sh62 out62
noncomputable def e62 : FE := ⟨62, sh62, out62, F62⟩
theorem ok62 : FEOK Tryz.prog e62 := func_ok (cx := cx62) (fn := Tryz.f62) (c := b62) (all_fe (P := Tryz.prog) (l := []) trivial) (by kernel_rfl) (by kernel_rfl) (by kernel_rfl) (by kernel_rfl) (by kernel_rfl) (needs_of (l := [((.loop (sub [1, 1, 1, 0, 1, 0, 0] b62)), ce62_0)]) (by kernel_rfl) ⟨okc62_0, trivial⟩)
@[reducible] def sh41 : Shape := ⟨[(0, .one (.d .str))], []⟩
@[reducible] def out41 : Shape := ⟨[(0, .one (.d .bool))], []⟩
noncomputable def b41 : Code := Tryz.f41.body.getD .skip
@[reducible] def sh41_0 : Shape := ⟨[(0, .one (.d .str)), (3, .one (.d (.int .i64)))], []⟩
@[reducible] def os41_0 : List (XE × Shape) := [(.ret, ⟨[(2, .one (.d .bool))], []⟩), (.ex 0, ⟨[(0, .one (.d .str))], []⟩)]
noncomputable def cx41_0 : Cx := ⟨Tryz.prog, [e62], [], 76, [], []⟩
noncomputable def B41_0 : sh41_0.D → Option (sh41_0.D ⊕ OutsD os41_0) := round cx41_0 (sub [1, 0, 1, 0, 0] b41) sh41_0 os41_0
noncomputable def ce41_0 : CE := ⟨sh41_0, os41_0, loop B41_0⟩
theorem okc41_0 : CEOK Tryz.prog 76 (.loop (sub [1, 0, 1, 0, 0] b41)) ce41_0 := round_ok (cx := cx41_0) (fun R => step_sound (all_fe (P := Tryz.prog) (l := [e62]) ⟨ok62, trivial⟩) R) (needs_of (l := []) (by kernel_rfl) trivial) sh41_0 os41_0
@[reducible] def sh41_1 : Shape := ⟨[(0, .one (.d .str)), (5, .one (.d (.list .str))), (6, .one (.d (.int .i64)))], []⟩
@[reducible] def os41_1 : List (XE × Shape) := [(.ret, ⟨[(2, .one (.d .bool))], []⟩), (.ex 2, ⟨[(0, .one (.d .str))], []⟩)]
noncomputable def cx41_1 : Cx := ⟨Tryz.prog, [e62], [], 76, [(4, ce41_0)], []⟩
noncomputable def B41_1 : sh41_1.D → Option (sh41_1.D ⊕ OutsD os41_1) := round cx41_1 (sub [1, 1, 1, 0, 1, 0, 0] b41) sh41_1 os41_1
noncomputable def ce41_1 : CE := ⟨sh41_1, os41_1, loop B41_1⟩
theorem okc41_1 : CEOK Tryz.prog 76 (.loop (sub [1, 1, 1, 0, 1, 0, 0] b41)) ce41_1 := round_ok (cx := cx41_1) (fun R => step_sound (all_fe (P := Tryz.prog) (l := [e62]) ⟨ok62, trivial⟩) R) (needs_of (l := []) (by kernel_rfl) trivial) sh41_1 os41_1
noncomputable def cx41 : Cx := ⟨Tryz.prog, [e62], [], 76, [(4, ce41_0), (18, ce41_1)], []⟩
noncomputable def F41 : sh41.D → Option out41.D := func cx41 Tryz.f41 b41 sh41 out41
noncomputable def e41 : FE := ⟨41, sh41, out41, F41⟩
theorem ok41 : FEOK Tryz.prog e41 := func_ok (cx := cx41) (fn := Tryz.f41) (c := b41) (all_fe (P := Tryz.prog) (l := [e62]) ⟨ok62, trivial⟩) (by kernel_rfl) (by kernel_rfl) (by kernel_rfl) (by kernel_rfl) (by kernel_rfl) (needs_of (l := [((.loop (sub [1, 0, 1, 0, 0] b41)), ce41_0), ((.loop (sub [1, 1, 1, 0, 1, 0, 0] b41)), ce41_1)]) (by kernel_rfl) ⟨okc41_0, okc41_1, trivial⟩)
@[reducible] def sh127 : Shape := ⟨[(0, .one (.d .str))], []⟩
@[reducible] def out127 : Shape := ⟨[(0, .one (.d (.int .i64))), (1, .one (.d .bool))], []⟩
noncomputable def b127 : Code := Tryz.f127.body.getD .skip
@[reducible] def sh127_0 : Shape := ⟨[(0, .one (.d .str)), (4, .one (.d (.int .i64))), (5, .one (.d (.int .i64)))], []⟩
@[reducible] def os127_0 : List (XE × Shape) := [(.ret, ⟨[(2, .one (.d (.int .i64))), (3, .one (.d .bool))], []⟩), (.ex 0, ⟨[(4, .one (.d (.int .i64)))], []⟩)]
noncomputable def cx127_0 : Cx := ⟨Tryz.prog, [], [], 49, [], []⟩
noncomputable def B127_0 : sh127_0.D → Option (sh127_0.D ⊕ OutsD os127_0) := round cx127_0 (sub [1, 1, 1, 0, 1, 0, 0] b127) sh127_0 os127_0
noncomputable def ce127_0 : CE := ⟨sh127_0, os127_0, loop B127_0⟩
theorem okc127_0 : CEOK Tryz.prog 49 (.loop (sub [1, 1, 1, 0, 1, 0, 0] b127)) ce127_0 := round_ok (cx := cx127_0) (fun R => step_sound (all_fe (P := Tryz.prog) (l := []) trivial) R) (needs_of (l := []) (by kernel_rfl) trivial) sh127_0 os127_0
noncomputable def cx127 : Cx := ⟨Tryz.prog, [], [], 49, [(10, ce127_0)], []⟩
noncomputable def F127 : sh127.D → Option out127.D := func cx127 Tryz.f127 b127 sh127 out127
noncomputable def e127 : FE := ⟨127, sh127, out127, F127⟩
theorem ok127 : FEOK Tryz.prog e127 := func_ok (cx := cx127) (fn := Tryz.f127) (c := b127) (all_fe (P := Tryz.prog) (l := []) trivial) (by kernel_rfl) (by kernel_rfl) (by kernel_rfl) (by kernel_rfl) (by kernel_rfl) (needs_of (l := [((.loop (sub [1, 1, 1, 0, 1, 0, 0] b127)), ce127_0)]) (by kernel_rfl) ⟨okc127_0, trivial⟩)
@[reducible] def sh109 : Shape := ⟨[(0, .one (.d .str))], []⟩
@[reducible] def out109 : Shape := ⟨[(0, .one (.d .str)), (1, .one (.d (.int .i64)))], []⟩
noncomputable def b109 : Code := Tryz.f109.body.getD .skip
noncomputable def cx109 : Cx := ⟨Tryz.prog, [e62, e127], [], 55, [], []⟩
noncomputable def F109 : sh109.D → Option out109.D := func cx109 Tryz.f109 b109 sh109 out109
noncomputable def e109 : FE := ⟨109, sh109, out109, F109⟩
theorem ok109 : FEOK Tryz.prog e109 := func_ok (cx := cx109) (fn := Tryz.f109) (c := b109) (all_fe (P := Tryz.prog) (l := [e62, e127]) ⟨ok62, ok127, trivial⟩) (by kernel_rfl) (by kernel_rfl) (by kernel_rfl) (by kernel_rfl) (by kernel_rfl) (needs_of (l := []) (by kernel_rfl) trivial)
@[reducible] def sh82 : Shape := ⟨[(0, .one (.d .str)), (1, .row [.d (.int .i64), .d (.int .i64), .d (.int .i64), .d .str])], []⟩
@[reducible] def out82 : Shape := ⟨[(0, .one (.d .bool))], []⟩
noncomputable def b82 : Code := Tryz.f82.body.getD .skip
noncomputable def cx82 : Cx := ⟨Tryz.prog, [e109], [], 25, [], []⟩
noncomputable def F82 : sh82.D → Option out82.D := func cx82 Tryz.f82 b82 sh82 out82
noncomputable def e82 : FE := ⟨82, sh82, out82, F82⟩
theorem ok82 : FEOK Tryz.prog e82 := func_ok (cx := cx82) (fn := Tryz.f82) (c := b82) (all_fe (P := Tryz.prog) (l := [e109]) ⟨ok109, trivial⟩) (by kernel_rfl) (by kernel_rfl) (by kernel_rfl) (by kernel_rfl) (by kernel_rfl) (needs_of (l := []) (by kernel_rfl) trivial)
@[reducible] def sh63 : Shape := ⟨[(0, .one (.d .str)), (1, .row [.d (.int .i64), .d (.int .i64), .d (.int .i64), .d .str])], []⟩
@[reducible] def out63 : Shape := ⟨[(0, .one (.d .bool))], []⟩
noncomputable def b63 : Code := Tryz.f63.body.getD .skip
noncomputable def cx63 : Cx := ⟨Tryz.prog, [e80, e82], [], 12, [], []⟩
noncomputable def F63 : sh63.D → Option out63.D := func cx63 Tryz.f63 b63 sh63 out63
noncomputable def e63 : FE := ⟨63, sh63, out63, F63⟩
theorem ok63 : FEOK Tryz.prog e63 := func_ok (cx := cx63) (fn := Tryz.f63) (c := b63) (all_fe (P := Tryz.prog) (l := [e80, e82]) ⟨ok80, ok82, trivial⟩) (by kernel_rfl) (by kernel_rfl) (by kernel_rfl) (by kernel_rfl) (by kernel_rfl) (needs_of (l := []) (by kernel_rfl) trivial)
@[reducible] def sh42 : Shape := ⟨[(0, .row [.d .str, .d (.int .i64), .d (.int .i64), .d (.int .i64), .d .str])], []⟩
@[reducible] def out42 : Shape := ⟨[(0, .one (.d .bool))], []⟩
noncomputable def b42 : Code := Tryz.f42.body.getD .skip
noncomputable def cx42 : Cx := ⟨Tryz.prog, [e41, e63], [], 13, [], []⟩
noncomputable def F42 : sh42.D → Option out42.D := func cx42 Tryz.f42 b42 sh42 out42
noncomputable def e42 : FE := ⟨42, sh42, out42, F42⟩
theorem ok42 : FEOK Tryz.prog e42 := func_ok (cx := cx42) (fn := Tryz.f42) (c := b42) (all_fe (P := Tryz.prog) (l := [e41, e63]) ⟨ok41, ok63, trivial⟩) (by kernel_rfl) (by kernel_rfl) (by kernel_rfl) (by kernel_rfl) (by kernel_rfl) (needs_of (l := []) (by kernel_rfl) trivial)
@[reducible] def sh18 : Shape := ⟨[(0, .row [.d .str, .d (.list r0), .d (.list r0), .d (.list r4)])], []⟩
@[reducible] def out18 : Shape := ⟨[(0, .one (.d .bool))], []⟩
noncomputable def b18 : Code := Tryz.f18.body.getD .skip
@[reducible] def sh18_0 : Shape := ⟨[(1, .one (.ptr 200000 0)), (3, .one (.d (.int .i64)))], [(200000, .box [.d .str, .d (.list r0), .d (.list r0), .d (.list r4)])]⟩
@[reducible] def os18_0 : List (XE × Shape) := [(.ret, ⟨[(2, .one (.d .bool))], []⟩), (.ex 0, ⟨[(1, .one (.ptr 200000 0))], [(200000, .box [.d .str, .d (.list r0), .d (.list r0), .d (.list r4)])]⟩)]
noncomputable def cx18_0 : Cx := ⟨Tryz.prog, [e40, e41, e42], [], 149, [], []⟩
noncomputable def B18_0 : sh18_0.D → Option (sh18_0.D ⊕ OutsD os18_0) := round cx18_0 (sub [1, 1, 0, 1, 0, 0] b18) sh18_0 os18_0
noncomputable def ce18_0 : CE := ⟨sh18_0, os18_0, loop B18_0⟩
theorem okc18_0 : CEOK Tryz.prog 149 (.loop (sub [1, 1, 0, 1, 0, 0] b18)) ce18_0 := round_ok (cx := cx18_0) (fun R => step_sound (all_fe (P := Tryz.prog) (l := [e40, e41, e42]) ⟨ok40, ok41, ok42, trivial⟩) R) (needs_of (l := []) (by kernel_rfl) trivial) sh18_0 os18_0
@[reducible] def sh18_1 : Shape := ⟨[(1, .one (.ptr 200000 0)), (5, .one (.d (.int .i64)))], [(200000, .box [.d .str, .d (.list r0), .d (.list r0), .d (.list r4)])]⟩
@[reducible] def os18_1 : List (XE × Shape) := [(.ret, ⟨[(2, .one (.d .bool))], []⟩), (.ex 2, ⟨[(1, .one (.ptr 200000 0))], [(200000, .box [.d .str, .d (.list r0), .d (.list r0), .d (.list r4)])]⟩)]
noncomputable def cx18_1 : Cx := ⟨Tryz.prog, [e40, e41, e42], [], 149, [(8, ce18_0)], []⟩
noncomputable def B18_1 : sh18_1.D → Option (sh18_1.D ⊕ OutsD os18_1) := round cx18_1 (sub [1, 1, 1, 0, 1, 0, 0] b18) sh18_1 os18_1
noncomputable def ce18_1 : CE := ⟨sh18_1, os18_1, loop B18_1⟩
theorem okc18_1 : CEOK Tryz.prog 149 (.loop (sub [1, 1, 1, 0, 1, 0, 0] b18)) ce18_1 := round_ok (cx := cx18_1) (fun R => step_sound (all_fe (P := Tryz.prog) (l := [e40, e41, e42]) ⟨ok40, ok41, ok42, trivial⟩) R) (needs_of (l := []) (by kernel_rfl) trivial) sh18_1 os18_1
@[reducible] def sh18_2 : Shape := ⟨[(1, .one (.ptr 200000 0)), (6, .one (.d (.int .i64)))], [(200000, .box [.d .str, .d (.list r0), .d (.list r0), .d (.list r4)])]⟩
@[reducible] def os18_2 : List (XE × Shape) := [(.ret, ⟨[(2, .one (.d .bool))], []⟩), (.ex 4, ⟨[], []⟩)]
noncomputable def cx18_2 : Cx := ⟨Tryz.prog, [e40, e41, e42], [], 149, [(8, ce18_0), (20, ce18_1)], []⟩
noncomputable def B18_2 : sh18_2.D → Option (sh18_2.D ⊕ OutsD os18_2) := round cx18_2 (sub [1, 1, 1, 1, 0, 1, 0, 0] b18) sh18_2 os18_2
noncomputable def ce18_2 : CE := ⟨sh18_2, os18_2, loop B18_2⟩
theorem okc18_2 : CEOK Tryz.prog 149 (.loop (sub [1, 1, 1, 1, 0, 1, 0, 0] b18)) ce18_2 := round_ok (cx := cx18_2) (fun R => step_sound (all_fe (P := Tryz.prog) (l := [e40, e41, e42]) ⟨ok40, ok41, ok42, trivial⟩) R) (needs_of (l := []) (by kernel_rfl) trivial) sh18_2 os18_2
noncomputable def cx18 : Cx := ⟨Tryz.prog, [e40, e41, e42], [], 149, [(8, ce18_0), (20, ce18_1), (30, ce18_2)], []⟩
noncomputable def F18 : sh18.D → Option out18.D := func cx18 Tryz.f18 b18 sh18 out18
noncomputable def e18 : FE := ⟨18, sh18, out18, F18⟩
theorem ok18 : FEOK Tryz.prog e18 := func_ok (cx := cx18) (fn := Tryz.f18) (c := b18) (all_fe (P := Tryz.prog) (l := [e40, e41, e42]) ⟨ok40, ok41, ok42, trivial⟩) (by kernel_rfl) (by kernel_rfl) (by kernel_rfl) (by kernel_rfl) (by kernel_rfl) (needs_of (l := [((.loop (sub [1, 1, 0, 1, 0, 0] b18)), ce18_0), ((.loop (sub [1, 1, 1, 0, 1, 0, 0] b18)), ce18_1), ((.loop (sub [1, 1, 1, 1, 0, 1, 0, 0] b18)), ce18_2)]) (by kernel_rfl) ⟨okc18_0, okc18_1, okc18_2, trivial⟩)
@[reducible] def sh51 : Shape := ⟨[(0, .row [.d .str, .d (.list r0), .d (.list r0), .d (.list r4)]), (1, .one (.d .str))], []⟩
@[reducible] def out51 : Shape := ⟨[(0, .row [.d .str, .d .str, .d (.int .i64), .d (.int .i64), .d (.int .i64), .d .str]), (1, .one (.d .bool))], []⟩
noncomputable def b51 : Code := Tryz.f51.body.getD .skip
@[reducible] def sh51_0 : Shape := ⟨[(1, .one (.d .str)), (2, .one (.ptr 200000 0)), (4, .one (.ptr 200001 0)), (6, .one (.d (.int .i64)))], [(200000, .box [.d .str, .d (.list r0), .d (.list r0), .d (.list r4)]), (200001, .box [.d .str, .d .str, .d (.int .i64), .d (.int .i64), .d (.int .i64), .d .str])]⟩
@[reducible] def os51_0 : List (XE × Shape) := [(.ret, ⟨[(4, .one (.ptr 200000 0)), (5, .one (.d .bool))], [(200000, .box [.d .str, .d .str, .d (.int .i64), .d (.int .i64), .d (.int .i64), .d .str])]⟩), (.ex 0, ⟨[(4, .one (.ptr 200000 0))], [(200000, .box [.d .str, .d .str, .d (.int .i64), .d (.int .i64), .d (.int .i64), .d .str])]⟩)]
noncomputable def cx51_0 : Cx := ⟨Tryz.prog, [], [], 28, [], []⟩
noncomputable def B51_0 : sh51_0.D → Option (sh51_0.D ⊕ OutsD os51_0) := round cx51_0 (sub [1, 0, 1, 0, 0] b51) sh51_0 os51_0
noncomputable def ce51_0 : CE := ⟨sh51_0, os51_0, loop B51_0⟩
theorem okc51_0 : CEOK Tryz.prog 28 (.loop (sub [1, 0, 1, 0, 0] b51)) ce51_0 := round_ok (cx := cx51_0) (fun R => step_sound (all_fe (P := Tryz.prog) (l := []) trivial) R) (needs_of (l := []) (by kernel_rfl) trivial) sh51_0 os51_0
noncomputable def cx51 : Cx := ⟨Tryz.prog, [], [], 28, [(4, ce51_0)], []⟩
noncomputable def F51 : sh51.D → Option out51.D := func cx51 Tryz.f51 b51 sh51 out51
noncomputable def e51 : FE := ⟨51, sh51, out51, F51⟩
theorem ok51 : FEOK Tryz.prog e51 := func_ok (cx := cx51) (fn := Tryz.f51) (c := b51) (all_fe (P := Tryz.prog) (l := []) trivial) (by kernel_rfl) (by kernel_rfl) (by kernel_rfl) (by kernel_rfl) (by kernel_rfl) (needs_of (l := [((.loop (sub [1, 0, 1, 0, 0] b51)), ce51_0)]) (by kernel_rfl) ⟨okc51_0, trivial⟩)
@[reducible] def sh77 : Shape := ⟨[(0, .row [.d (.list r2), .d (.list r3)]), (1, .one (.d .str))], []⟩
@[reducible] def out77 : Shape := ⟨[(0, .one (.d (.int .i64)))], []⟩
noncomputable def b77 : Code := Tryz.f77.body.getD .skip
@[reducible] def sh77_0 : Shape := ⟨[(1, .one (.d .str)), (2, .one (.ptr 200000 0)), (5, .one (.d (.int .i64)))], [(200000, .box [.d (.list r2), .d (.list r3)])]⟩
@[reducible] def os77_0 : List (XE × Shape) := [(.ret, ⟨[(4, .one (.d (.int .i64)))], []⟩), (.ex 0, ⟨[], []⟩)]
noncomputable def cx77_0 : Cx := ⟨Tryz.prog, [], [], 22, [], []⟩
noncomputable def B77_0 : sh77_0.D → Option (sh77_0.D ⊕ OutsD os77_0) := round cx77_0 (sub [1, 0, 1, 0, 0] b77) sh77_0 os77_0
noncomputable def ce77_0 : CE := ⟨sh77_0, os77_0, loop B77_0⟩
theorem okc77_0 : CEOK Tryz.prog 22 (.loop (sub [1, 0, 1, 0, 0] b77)) ce77_0 := round_ok (cx := cx77_0) (fun R => step_sound (all_fe (P := Tryz.prog) (l := []) trivial) R) (needs_of (l := []) (by kernel_rfl) trivial) sh77_0 os77_0
noncomputable def cx77 : Cx := ⟨Tryz.prog, [], [], 22, [(4, ce77_0)], []⟩
noncomputable def F77 : sh77.D → Option out77.D := func cx77 Tryz.f77 b77 sh77 out77
noncomputable def e77 : FE := ⟨77, sh77, out77, F77⟩
theorem ok77 : FEOK Tryz.prog e77 := func_ok (cx := cx77) (fn := Tryz.f77) (c := b77) (all_fe (P := Tryz.prog) (l := []) trivial) (by kernel_rfl) (by kernel_rfl) (by kernel_rfl) (by kernel_rfl) (by kernel_rfl) (needs_of (l := [((.loop (sub [1, 0, 1, 0, 0] b77)), ce77_0)]) (by kernel_rfl) ⟨okc77_0, trivial⟩)
@[reducible] def sh57 : Shape := ⟨[(0, .row [.d (.list r2), .d (.list r3)]), (1, .one (.d .str)), (2, .row [.d (.int .i64), .d (.int .i64), .d (.int .i64), .d .str])], []⟩
@[reducible] def out57 : Shape := ⟨[(0, .row [.d (.int .i64), .d (.int .i64), .d (.int .i64), .d .str, .d (.list r0), .d .str, .d .str]), (1, .one (.d .bool))], []⟩
noncomputable def b57 : Code := Tryz.f57.body.getD .skip
@[reducible] def sh57_0 : Shape := ⟨[(5, .one (.ptr 200000 0)), (6, .one (.ptr 200001 0)), (9, .one (.d (.list r1))), (10, .one (.d (.int .i64)))], [(200000, .box [.d (.int .i64), .d (.int .i64), .d (.int .i64), .d .str]), (200001, .box [.d (.int .i64), .d (.int .i64), .d (.int .i64), .d .str, .nilS, .d .str, .d .str])]⟩
@[reducible] def os57_0 : List (XE × Shape) := [(.ret, ⟨[(6, .one (.ptr 200000 0)), (7, .one (.d .bool))], [(200000, .box [.d (.int .i64), .d (.int .i64), .d (.int .i64), .d .str, .d (.list r0), .d .str, .d .str])]⟩), (.ex 0, ⟨[(6, .one (.ptr 200000 0))], [(200000, .box [.d (.int .i64), .d (.int .i64), .d (.int .i64), .d .str, .nilS, .d .str, .d .str])]⟩)]
noncomputable def cx57_0 : Cx := ⟨Tryz.prog, [e77], [], 41, [], []⟩
noncomputable def B57_0 : sh57_0.D → Option (sh57_0.D ⊕ OutsD os57_0) := round cx57_0 (sub [1, 1, 1, 1, 0, 1, 0, 0] b57) sh57_0 os57_0
noncomputable def ce57_0 : CE := ⟨sh57_0, os57_0, loop B57_0⟩
theorem okc57_0 : CEOK Tryz.prog 41 (.loop (sub [1, 1, 1, 1, 0, 1, 0, 0] b57)) ce57_0 := round_ok (cx := cx57_0) (fun R => step_sound (all_fe (P := Tryz.prog) (l := [e77]) ⟨ok77, trivial⟩) R) (needs_of (l := []) (by kernel_rfl) trivial) sh57_0 os57_0
noncomputable def cx57 : Cx := ⟨Tryz.prog, [e77], [], 41, [(12, ce57_0)], []⟩
noncomputable def F57 : sh57.D → Option out57.D := func cx57 Tryz.f57 b57 sh57 out57
noncomputable def e57 : FE := ⟨57, sh57, out57, F57⟩
theorem ok57 : FEOK Tryz.prog e57 := func_ok (cx := cx57) (fn := Tryz.f57) (c := b57) (all_fe (P := Tryz.prog) (l := [e77]) ⟨ok77, trivial⟩) (by kernel_rfl) (by kernel_rfl) (by kernel_rfl) (by kernel_rfl) (by kernel_rfl) (needs_of (l := [((.loop (sub [1, 1, 1, 1, 0, 1, 0, 0] b57)), ce57_0)]) (by kernel_rfl) ⟨okc57_0, trivial⟩)
@[reducible] def sh106 : Shape := ⟨[(0, .row [.d .str, .d (.list r0), .d (.list r0), .d (.list r4)]), (1, .row [.d .str, .d (.int .i64), .d (.int .i64), .d (.int .i64), .d .str])], []⟩
@[reducible] def out106 : Shape := ⟨[(0, .one (.d .bool))], []⟩
noncomputable def b106 : Code := Tryz.f106.body.getD .skip
@[reducible] def sh106_0 : Shape := ⟨[(2, .one (.ptr 200000 0)), (3, .one (.ptr 200001 0)), (5, .one (.d (.int .i64)))], [(200000, .box [.d .str, .d (.list r0), .d (.list r0), .d (.list r4)]), (200001, .box [.d .str, .d (.int .i64), .d (.int .i64), .d (.int .i64), .d .str])]⟩
@[reducible] def os106_0 : List (XE × Shape) := [(.ret, ⟨[(4, .one (.d .bool))], []⟩), (.ex 0, ⟨[], []⟩)]
noncomputable def cx106_0 : Cx := ⟨Tryz.prog, [], [], 20, [], []⟩
noncomputable def B106_0 : sh106_0.D → Option (sh106_0.D ⊕ OutsD os106_0) := round cx106_0 (sub [1, 0, 1, 0, 0] b106) sh106_0 os106_0
noncomputable def ce106_0 : CE := ⟨sh106_0, os106_0, loop B106_0⟩
theorem okc106_0 : CEOK Tryz.prog 20 (.loop (sub [1, 0, 1, 0, 0] b106)) ce106_0 := round_ok (cx := cx106_0) (fun R => step_sound (all_fe (P := Tryz.prog) (l := []) trivial) R) (needs_of (l := []) (by kernel_rfl) trivial) sh106_0 os106_0
noncomputable def cx106 : Cx := ⟨Tryz.prog, [], [], 20, [(4, ce106_0)], []⟩
noncomputable def F106 : sh106.D → Option out106.D := func cx106 Tryz.f106 b106 sh106 out106
noncomputable def e106 : FE := ⟨106, sh106, out106, F106⟩
theorem ok106 : FEOK Tryz.prog e106 := func_ok (cx := cx106) (fn := Tryz.f106) (c := b106) (all_fe (P := Tryz.prog) (l := []) trivial) (by kernel_rfl) (by kernel_rfl) (by kernel_rfl) (by kernel_rfl) (by kernel_rfl) (needs_of (l := [((.loop (sub [1, 0, 1, 0, 0] b106)), ce106_0)]) (by kernel_rfl) ⟨okc106_0, trivial⟩)
@[reducible] def sh125 : Shape := ⟨[(0, .row [.d (.list r2), .d (.list r3)]), (1, .one (.d .str))], []⟩
@[reducible] def out125 : Shape := ⟨[(0, .one (.d (.list r5)))], []⟩
noncomputable def b125 : Code := Tryz.f125.body.getD .skip
@[reducible] def sh125_0 : Shape := ⟨[(2, .one (.ptr 200000 0)), (5, .one (.own 200001)), (6, .one (.d (.int .i64))), (7, .one (.d (.int .i64)))], [(200000, .box [.d (.list r2), .d (.list r3)]), (200001, .lst 39 r5 true)]⟩
@[reducible] def os125_0 : List (XE × Shape) := [(.ex 0, ⟨[(5, .one (.own 200000))], [(200000, .lst 39 r5 true)]⟩)]
noncomputable def cx125_0 : Cx := ⟨Tryz.prog, [e77], [], 40, [], []⟩
noncomputable def B125_0 : sh125_0.D → Option (sh125_0.D ⊕ OutsD os125_0) := round cx125_0 (sub [1, 1, 1, 0, 1, 0, 0] b125) sh125_0 os125_0
noncomputable def ce125_0 : CE := ⟨sh125_0, os125_0, loop B125_0⟩
theorem okc125_0 : CEOK Tryz.prog 40 (.loop (sub [1, 1, 1, 0, 1, 0, 0] b125)) ce125_0 := round_ok (cx := cx125_0) (fun R => step_sound (all_fe (P := Tryz.prog) (l := [e77]) ⟨ok77, trivial⟩) R) (needs_of (l := []) (by kernel_rfl) trivial) sh125_0 os125_0
noncomputable def cx125 : Cx := ⟨Tryz.prog, [e77], [], 40, [(8, ce125_0)], []⟩
noncomputable def F125 : sh125.D → Option out125.D := func cx125 Tryz.f125 b125 sh125 out125
noncomputable def e125 : FE := ⟨125, sh125, out125, F125⟩
theorem ok125 : FEOK Tryz.prog e125 := func_ok (cx := cx125) (fn := Tryz.f125) (c := b125) (all_fe (P := Tryz.prog) (l := [e77]) ⟨ok77, trivial⟩) (by kernel_rfl) (by kernel_rfl) (by kernel_rfl) (by kernel_rfl) (by kernel_rfl) (needs_of (l := [((.loop (sub [1, 1, 1, 0, 1, 0, 0] b125)), ce125_0)]) (by kernel_rfl) ⟨okc125_0, trivial⟩)
@[reducible] def sh107 : Shape := ⟨[(0, .row [.d (.list r2), .d (.list r3)]), (1, .row [.d .str, .d (.list r0), .d (.list r0), .d (.list r4)]), (2, .row [.d .str, .d (.int .i64), .d (.int .i64), .d (.int .i64), .d .str])], []⟩
@[reducible] def out107 : Shape := ⟨[(0, .row [.d .str, .d (.int .i64), .d (.int .i64), .d (.int .i64), .d .str]), (1, .one (.d .bool))], []⟩
noncomputable def b107 : Code := Tryz.f107.body.getD .skip
@[reducible] def sh107_0 : Shape := ⟨[(4, .one (.ptr 200000 0)), (5, .one (.ptr 200001 0)), (6, .one (.ptr 200002 0)), (8, .one (.d (.list r5))), (9, .one (.d (.int .i64)))], [(200000, .box [.d .str, .d (.list r0), .d (.list r0), .d (.list r4)]), (200001, .box [.d .str, .d (.int .i64), .d (.int .i64), .d (.int .i64), .d .str]), (200002, .box [.d .str, .d (.int .i64), .d (.int .i64), .d (.int .i64), .d .str])]⟩
@[reducible] def os107_0 : List (XE × Shape) := [(.ret, ⟨[(6, .one (.ptr 200000 0)), (7, .one (.d .bool))], [(200000, .box [.d .str, .d (.int .i64), .d (.int .i64), .d (.int .i64), .d .str])]⟩), (.ex 0, ⟨[(6, .one (.ptr 200000 0))], [(200000, .box [.d .str, .d (.int .i64), .d (.int .i64), .d (.int .i64), .d .str])]⟩)]
noncomputable def cx107_0 : Cx := ⟨Tryz.prog, [e21, e106, e125], [], 45, [], []⟩
noncomputable def B107_0 : sh107_0.D → Option (sh107_0.D ⊕ OutsD os107_0) := round cx107_0 (sub [1, 1, 0, 1, 0, 0] b107) sh107_0 os107_0
noncomputable def ce107_0 : CE := ⟨sh107_0, os107_0, loop B107_0⟩
theorem okc107_0 : CEOK Tryz.prog 45 (.loop (sub [1, 1, 0, 1, 0, 0] b107)) ce107_0 := round_ok (cx := cx107_0) (fun R => step_sound (all_fe (P := Tryz.prog) (l := [e21, e106, e125]) ⟨ok21, ok106, ok125, trivial⟩) R) (needs_of (l := []) (by kernel_rfl) trivial) sh107_0 os107_0
noncomputable def cx107 : Cx := ⟨Tryz.prog, [e21, e106, e125], [], 45, [(6, ce107_0)], []⟩
noncomputable def F107 : sh107.D → Option out107.D := func cx107 Tryz.f107 b107 sh107 out107
noncomputable def e107 : FE := ⟨107, sh107, out107, F107⟩
theorem ok107 : FEOK Tryz.prog e107 := func_ok (cx := cx107) (fn := Tryz.f107) (c := b107) (all_fe (P := Tryz.prog) (l := [e21, e106, e125]) ⟨ok21, ok106, ok125, trivial⟩) (by kernel_rfl) (by kernel_rfl) (by kernel_rfl) (by kernel_rfl) (by kernel_rfl) (needs_of (l := [((.loop (sub [1, 1, 0, 1, 0, 0] b107)), ce107_0)]) (by kernel_rfl) ⟨okc107_0, trivial⟩)
@[reducible] def sh78 : Shape := ⟨[(0, .row [.d (.list r2), .d (.list r3)]), (1, .row [.d .str, .d (.list r0), .d (.list r0), .d (.list r4)]), (2, .row [.d .str, .d (.int .i64), .d (.int .i64), .d (.int .i64), .d .str])], []⟩
@[reducible] def out78 : Shape := ⟨[(0, .row [.d .str, .d (.int .i64), .d (.int .i64), .d (.int .i64), .d .str]), (1, .one (.d .bool)), (2, .one (.d (.int .i64)))], []⟩
noncomputable def b78 : Code := Tryz.f78.body.getD .skip
noncomputable def cx78 : Cx := ⟨Tryz.prog, [e51, e57, e106, e107], [], 57, [], []⟩
noncomputable def F78 : sh78.D → Option out78.D := func cx78 Tryz.f78 b78 sh78 out78
noncomputable def e78 : FE := ⟨78, sh78, out78, F78⟩
theorem ok78 : FEOK Tryz.prog e78 := func_ok (cx := cx78) (fn := Tryz.f78) (c := b78) (all_fe (P := Tryz.prog) (l := [e51, e57, e106, e107]) ⟨ok51, ok57, ok106, ok107, trivial⟩) (by kernel_rfl) (by kernel_rfl) (by kernel_rfl) (by kernel_rfl) (by kernel_rfl) (needs_of (l := []) (by kernel_rfl) trivial)
@[reducible] def sh58 : Shape := ⟨[(0, .row [.d (.list r2), .d (.list r3)]), (1, .row [.d .str, .d (.list r0), .d (.list r0), .d (.list r4)]), (2, .one (.d (.list r0)))], []⟩
@[reducible] def out58 : Shape := ⟨[(0, .one (.own 200000)), (1, .one (.d (.int .i64)))], [(200000, .lst 43 r0 true)]⟩
noncomputable def b58 : Code := Tryz.f58.body.getD .skip
@[reducible] def sh58_0 : Shape := ⟨[(2, .one (.d (.list r0))), (3, .one (.ptr 200000 0)), (4, .one (.ptr 200001 0)), (8, .one (.own 200002)), (9, .one (.d (.int .i64)))], [(200000, .box [.d (.list r2), .d (.list r3)]), (200001, .box [.d .str, .d (.list r0), .d (.list r0), .d (.list r4)]), (200002, .lst 43 r0 true)]⟩
@[reducible] def os58_0 : List (XE × Shape) := [(.ret, ⟨[(6, .one (.nilS)), (7, .one (.d (.int .i64)))], []⟩), (.ex 0, ⟨[(8, .one (.own 200000))], [(200000, .lst 43 r0 true)]⟩)]
noncomputable def cx58_0 : Cx := ⟨Tryz.prog, [e17, e78], [], 40, [], []⟩
noncomputable def B58_0 : sh58_0.D → Option (sh58_0.D ⊕ OutsD os58_0) := round cx58_0 (sub [1, 1, 0, 1, 0, 0] b58) sh58_0 os58_0
noncomputable def ce58_0 : CE := ⟨sh58_0, os58_0, loop B58_0⟩
theorem okc58_0 : CEOK Tryz.prog 40 (.loop (sub [1, 1, 0, 1, 0, 0] b58)) ce58_0 := round_ok (cx := cx58_0) (fun R => step_sound (all_fe (P := Tryz.prog) (l := [e17, e78]) ⟨ok17, ok78, trivial⟩) R) (needs_of (l := []) (by kernel_rfl) trivial) sh58_0 os58_0
noncomputable def cx58 : Cx := ⟨Tryz.prog, [e17, e78], [], 40, [(6, ce58_0)], []⟩
noncomputable def F58 : sh58.D → Option out58.D := func cx58 Tryz.f58 b58 sh58 out58
noncomputable def e58 : FE := ⟨58, sh58, out58, F58⟩
theorem ok58 : FEOK Tryz.prog e58 := func_ok (cx := cx58) (fn := Tryz.f58) (c := b58) (all_fe (P := Tryz.prog) (l := [e17, e78]) ⟨ok17, ok78, trivial⟩) (by kernel_rfl) (by kernel_rfl) (by kernel_rfl) (by kernel_rfl) (by kernel_rfl) (needs_of (l := [((.loop (sub [1, 1, 0, 1, 0, 0] b58)), ce58_0)]) (by kernel_rfl) ⟨okc58_0, trivial⟩)
@[reducible] def sh30 : Shape := ⟨[(0, .row [.d (.list r2), .d (.list r3)]), (1, .row [.d .str, .d (.list r0), .d (.list r0), .d (.list r4)]), (2, .row [.d .str, .d (.int .i64), .d (.int .i64), .d (.int .i64), .d .str])], []⟩
@[reducible] def out30 : Shape := ⟨[(0, .one (.d (.list r0))), (1, .one (.d (.int .i64)))], []⟩
noncomputable def b30 : Code := Tryz.f30.body.getD .skip
noncomputable def cx30 : Cx := ⟨Tryz.prog, [e51, e57, e58], [], 45, [], []⟩
noncomputable def F30 : sh30.D → Option out30.D := func cx30 Tryz.f30 b30 sh30 out30
noncomputable def e30 : FE := ⟨30, sh30, out30, F30⟩
theorem ok30 : FEOK Tryz.prog e30 := func_ok (cx := cx30) (fn := Tryz.f30) (c := b30) (all_fe (P := Tryz.prog) (l := [e51, e57, e58]) ⟨ok51, ok57, ok58, trivial⟩) (by kernel_rfl) (by kernel_rfl) (by kernel_rfl) (by kernel_rfl) (by kernel_rfl) (needs_of (l := []) (by kernel_rfl) trivial)
@[reducible] def sh59 : Shape := ⟨[(0, .one (.d (.list r0))), (1, .row [.d .str, .d (.int .i64), .d (.int .i64), .d (.int .i64), .d .str])], []⟩
@[reducible] def out59 : Shape := ⟨[(0, .one (.d (.int .i64)))], []⟩
noncomputable def b59 : Code := Tryz.f59.body.getD .skip
@[reducible] def sh59_0 : Shape := ⟨[(0, .one (.d (.list r0))), (3, .one (.ptr 200000 0)), (5, .one (.d (.int .i64)))], [(200000, .box [.d .str, .d (.int .i64), .d (.int .i64), .d (.int .i64), .d .str])]⟩
@[reducible] def os59_0 : List (XE × Shape) := [(.ret, ⟨[(4, .one (.d (.int .i64)))], []⟩), (.ex 0, ⟨[], []⟩)]
noncomputable def cx59_0 : Cx := ⟨Tryz.prog, [], [], 19, [], []⟩
noncomputable def B59_0 : sh59_0.D → Option (sh59_0.D ⊕ OutsD os59_0) := round cx59_0 (sub [1, 0, 1, 0, 0] b59) sh59_0 os59_0
noncomputable def ce59_0 : CE := ⟨sh59_0, os59_0, loop B59_0⟩
theorem okc59_0 : CEOK Tryz.prog 19 (.loop (sub [1, 0, 1, 0, 0] b59)) ce59_0 := round_ok (cx := cx59_0) (fun R => step_sound (all_fe (P := Tryz.prog) (l := []) trivial) R) (needs_of (l := []) (by kernel_rfl) trivial) sh59_0 os59_0
noncomputable def cx59 : Cx := ⟨Tryz.prog, [], [], 19, [(4, ce59_0)], []⟩
noncomputable def F59 : sh59.D → Option out59.D := func cx59 Tryz.f59 b59 sh59 out59
noncomputable def e59 : FE := ⟨59, sh59, out59, F59⟩
theorem ok59 : FEOK Tryz.prog e59 := func_ok (cx := cx59) (fn := Tryz.f59) (c := b59) (all_fe (P := Tryz.prog) (l := []) trivial) (by kernel_rfl) (by kernel_rfl) (by kernel_rfl) (by kernel_rfl) (by kernel_rfl) (needs_of (l := [((.loop (sub [1, 0, 1, 0, 0] b59)), ce59_0)]) (by kernel_rfl) ⟨okc59_0, trivial⟩)
@[reducible] def sh49 : Shape := ⟨[(0, .row [.d (.list r2), .d (.list r3)]), (1, .row [.d .str, .d (.list r0), .d (.list r0), .d (.list r4)])], []⟩
@[reducible] def out49 : Shape := ⟨[(0, .one (.own 200000)), (1, .one (.own 200001)), (2, .one (.d (.int .i64)))], [(200000, .lst 43 r0 true), (200001, .lst 3 (.int .i64) false)]⟩
noncomputable def b49 : Code := Tryz.f49.body.getD .skip
@[reducible] def sh49_0 : Shape := ⟨[(2, .one (.ptr 200000 0)), (3, .one (.ptr 200001 0)), (7, .one (.own 200002)), (9, .one (.own 200003)), (10, .one (.d (.int .i64)))], [(200000, .box [.d (.list r2), .d (.list r3)]), (200001, .box [.d .str, .d (.list r0), .d (.list r0), .d (.list r4)]), (200002, .lst 43 r0 true), (200003, .lst 3 (.int .i64) false)]⟩
@[reducible] def os49_0 : List (XE × Shape) := [(.ex 0, ⟨[(2, .one (.ptr 200000 0)), (3, .one (.ptr 200001 0)), (7, .one (.own 200002)), (9, .one (.own 200003))], [(200000, .box [.d (.list r2), .d (.list r3)]), (200001, .box [.d .str, .d (.list r0), .d (.list r0), .d (.list r4)]), (200002, .lst 43 r0 true), (200003, .lst 3 (.int .i64) false)]⟩)]
noncomputable def cx49_0 : Cx := ⟨Tryz.prog, [e30, e58, e59], [28, 80], 83, [], []⟩
noncomputable def B49_0 : sh49_0.D → Option (sh49_0.D ⊕ OutsD os49_0) := round cx49_0 (sub [1, 1, 1, 1, 0, 1, 0, 0] b49) sh49_0 os49_0
noncomputable def ce49_0 : CE := ⟨sh49_0, os49_0, loop B49_0⟩
theorem okc49_0 : CEOK Tryz.prog 83 (.loop (sub [1, 1, 1, 1, 0, 1, 0, 0] b49)) ce49_0 := round_ok (cx := cx49_0) (fun R => step_sound (all_fe (P := Tryz.prog) (l := [e30, e58, e59]) ⟨ok30, ok58, ok59, trivial⟩) R) (needs_of (l := []) (by kernel_rfl) trivial) sh49_0 os49_0
@[reducible] def sh49_1 : Shape := ⟨[(2, .one (.ptr 200000 0)), (3, .one (.ptr 200001 0)), (7, .one (.own 200002)), (9, .one (.own 200003)), (11, .one (.d (.int .i64))), (12, .one (.d (.list r0))), (14, .one (.d (.int .i64)))], [(200000, .box [.d (.list r2), .d (.list r3)]), (200001, .box [.d .str, .d (.list r0), .d (.list r0), .d (.list r4)]), (200002, .lst 43 r0 true), (200003, .lst 3 (.int .i64) false)]⟩
@[reducible] def os49_1 : List (XE × Shape) := [(.ex 4, ⟨[(2, .one (.ptr 200000 0)), (3, .one (.ptr 200001 0)), (7, .one (.own 200002)), (9, .one (.own 200003)), (11, .one (.d (.int .i64)))], [(200000, .box [.d (.list r2), .d (.list r3)]), (200001, .box [.d .str, .d (.list r0), .d (.list r0), .d (.list r4)]), (200002, .lst 43 r0 true), (200003, .lst 3 (.int .i64) false)]⟩)]
noncomputable def cx49_1 : Cx := ⟨Tryz.prog, [e30, e58, e59], [28, 80], 83, [(12, ce49_0)], []⟩
noncomputable def B49_1 : sh49_1.D → Option (sh49_1.D ⊕ OutsD os49_1) := round cx49_1 (sub [1, 1, 1, 1, 1, 0, 1, 0, 0, 1, 0, 0, 1, 1, 1, 0, 0] b49) sh49_1 os49_1
noncomputable def ce49_1 : CE := ⟨sh49_1, os49_1, loop B49_1⟩
theorem okc49_1 : CEOK Tryz.prog 83 (.loop (sub [1, 1, 1, 1, 1, 0, 1, 0, 0, 1, 0, 0, 1, 1, 1, 0, 0] b49)) ce49_1 := round_ok (cx := cx49_1) (fun R => step_sound (all_fe (P := Tryz.prog) (l := [e30, e58, e59]) ⟨ok30, ok58, ok59, trivial⟩) R) (needs_of (l := []) (by kernel_rfl) trivial) sh49_1 os49_1
@[reducible] def sh49_2 : Shape := ⟨[(2, .one (.ptr 200000 0)), (3, .one (.ptr 200001 0)), (7, .one (.own 200002)), (9, .one (.own 200003)), (11, .one (.d (.int .i64)))], [(200000, .box [.d (.list r2), .d (.list r3)]), (200001, .box [.d .str, .d (.list r0), .d (.list r0), .d (.list r4)]), (200002, .lst 43 r0 true), (200003, .lst 3 (.int .i64) false)]⟩
@[reducible] def os49_2 : List (XE × Shape) := [(.ret, ⟨[(4, .one (.nilS)), (5, .one (.nilS)), (6, .one (.d (.int .i64)))], []⟩), (.ex 2, ⟨[(7, .one (.own 200000)), (9, .one (.own 200001))], [(200000, .lst 43 r0 true), (200001, .lst 3 (.int .i64) false)]⟩)]
noncomputable def cx49_2 : Cx := ⟨Tryz.prog, [e30, e58, e59], [28, 80], 83, [(12, ce49_0), (32, ce49_1)], []⟩
noncomputable def B49_2 : sh49_2.D → Option (sh49_2.D ⊕ OutsD os49_2) := round cx49_2 (sub [1, 1, 1, 1, 1, 0, 1, 0, 0] b49) sh49_2 os49_2
noncomputable def ce49_2 : CE := ⟨sh49_2, os49_2, loop B49_2⟩
theorem okc49_2 : CEOK Tryz.prog 83 (.loop (sub [1, 1, 1, 1, 1, 0, 1, 0, 0] b49)) ce49_2 := round_ok (cx := cx49_2) (fun R => step_sound (all_fe (P := Tryz.prog) (l := [e30, e58, e59]) ⟨ok30, ok58, ok59, trivial⟩) R) (needs_of (l := [((.loop (sub [1, 1, 1, 1, 1, 0, 1, 0, 0, 1, 0, 0, 1, 1, 1, 0, 0] b49)), ce49_1)]) (by kernel_rfl) ⟨okc49_1, trivial⟩) sh49_2 os49_2
noncomputable def cx49 : Cx := ⟨Tryz.prog, [e30, e58, e59], [28, 80], 83, [(12, ce49_0), (32, ce49_1), (20, ce49_2)], []⟩
noncomputable def F49 : sh49.D → Option out49.D := func cx49 Tryz.f49 b49 sh49 out49
noncomputable def e49 : FE := ⟨49, sh49, out49, F49⟩
theorem ok49 : FEOK Tryz.prog e49 := func_ok (cx := cx49) (fn := Tryz.f49) (c := b49) (all_fe (P := Tryz.prog) (l := [e30, e58, e59]) ⟨ok30, ok58, ok59, trivial⟩) (by kernel_rfl) (by kernel_rfl) (by kernel_rfl) (by kernel_rfl) (by kernel_rfl) (needs_of (l := [((.loop (sub [1, 1, 1, 1, 0, 1, 0, 0] b49)), ce49_0), ((.loop (sub [1, 1, 1, 1, 1, 0, 1, 0, 0] b49)), ce49_2)]) (by kernel_rfl) ⟨okc49_0, okc49_2, trivial⟩)
@[reducible] def sh50 : Shape := ⟨[(0, .one (.d (.list r5)))], []⟩
@[reducible] def out50 : Shape := ⟨[(0, .row [.d (.int .i64), .d (.int .i64), .d (.int .i64), .d .str])], []⟩
noncomputable def b50 : Code := Tryz.f50.body.getD .skip
@[reducible] def sh50_0 : Shape := ⟨[(0, .one (.d (.list r5))), (2, .one (.ptr 200000 0)), (3, .one (.ptr 200001 0)), (4, .one (.d (.int .i64)))], [(200000, .box [.d (.int .i64), .d (.int .i64), .d (.int .i64), .d .str]), (200001, .box [.d (.int .i64), .d (.int .i64), .d (.int .i64), .d .str])]⟩
@[reducible] def os50_0 : List (XE × Shape) := [(.ex 0, ⟨[(2, .one (.ptr 200000 0)), (3, .one (.ptr 200001 0))], [(200000, .box [.d (.int .i64), .d (.int .i64), .d (.int .i64), .d .str]), (200001, .box [.d (.int .i64), .d (.int .i64), .d (.int .i64), .d .str])]⟩)]
noncomputable def cx50_0 : Cx := ⟨Tryz.prog, [e21], [], 27, [], []⟩
noncomputable def B50_0 : sh50_0.D → Option (sh50_0.D ⊕ OutsD os50_0) := round cx50_0 (sub [1, 1, 0, 1, 0, 0] b50) sh50_0 os50_0
noncomputable def ce50_0 : CE := ⟨sh50_0, os50_0, loop B50_0⟩
theorem okc50_0 : CEOK Tryz.prog 27 (.loop (sub [1, 1, 0, 1, 0, 0] b50)) ce50_0 := round_ok (cx := cx50_0) (fun R => step_sound (all_fe (P := Tryz.prog) (l := [e21]) ⟨ok21, trivial⟩) R) (needs_of (l := []) (by kernel_rfl) trivial) sh50_0 os50_0
noncomputable def cx50 : Cx := ⟨Tryz.prog, [e21], [], 27, [(6, ce50_0)], []⟩
noncomputable def F50 : sh50.D → Option out50.D := func cx50 Tryz.f50 b50 sh50 out50
noncomputable def e50 : FE := ⟨50, sh50, out50, F50⟩
theorem ok50 : FEOK Tryz.prog e50 := func_ok (cx := cx50) (fn := Tryz.f50) (c := b50) (all_fe (P := Tryz.prog) (l := [e21]) ⟨ok21, trivial⟩) (by kernel_rfl) (by kernel_rfl) (by kernel_rfl) (by kernel_rfl) (by kernel_rfl) (needs_of (l := [((.loop (sub [1, 1, 0, 1, 0, 0] b50)), ce50_0)]) (by kernel_rfl) ⟨okc50_0, trivial⟩)
@[reducible] def sh22 : Shape := ⟨[(0, .row [.d (.list r2), .d (.list r3)]), (1, .row [.d .str, .d (.list r0), .d (.list r0), .d (.list r4)])], []⟩
@[reducible] def out22 : Shape := ⟨[(0, .one (.d (.list r6))), (1, .one (.d (.int .i64)))], []⟩
noncomputable def b22 : Code := Tryz.f22.body.getD .skip
@[reducible] def sh22_0 : Shape := ⟨[(3, .one (.ptr 200000 0)), (6, .one (.own 200001)), (9, .one (.own 200002)), (10, .one (.d (.int .i64))), (11, .one (.d (.int .i64)))], [(200000, .box [.d .str, .d (.list r0), .d (.list r0), .d (.list r4)]), (200001, .lst 43 r0 true), (200002, .lst 51 r6 false)]⟩
@[reducible] def os22_0 : List (XE × Shape) := [(.ex 2, ⟨[(3, .one (.ptr 200000 0)), (6, .one (.own 200001)), (9, .one (.own 200002)), (10, .one (.d (.int .i64))), (11, .one (.d (.int .i64)))], [(200000, .box [.d .str, .d (.list r0), .d (.list r0), .d (.list r4)]), (200001, .lst 43 r0 true), (200002, .lst 51 r6 false)]⟩)]
noncomputable def cx22_0 : Cx := ⟨Tryz.prog, [e49, e50, e51], [110, 114, 117, 121], 123, [], []⟩
noncomputable def B22_0 : sh22_0.D → Option (sh22_0.D ⊕ OutsD os22_0) := round cx22_0 (sub [1, 1, 1, 1, 0, 1, 0, 0, 1, 0, 0, 1, 0, 0, 0] b22) sh22_0 os22_0
noncomputable def ce22_0 : CE := ⟨sh22_0, os22_0, loop B22_0⟩
theorem okc22_0 : CEOK Tryz.prog 123 (.loop (sub [1, 1, 1, 1, 0, 1, 0, 0, 1, 0, 0, 1, 0, 0, 0] b22)) ce22_0 := round_ok (cx := cx22_0) (fun R => step_sound (all_fe (P := Tryz.prog) (l := [e49, e50, e51]) ⟨ok49, ok50, ok51, trivial⟩) R) (needs_of (l := []) (by kernel_rfl) trivial) sh22_0 os22_0
@[reducible] def sh22_1 : Shape := ⟨[(3, .one (.ptr 200000 0)), (6, .one (.own 200001)), (9, .one (.own 200002)), (10, .one (.d (.int .i64)))], [(200000, .box [.d .str, .d (.list r0), .d (.list r0), .d (.list r4)]), (200001, .lst 43 r0 true), (200002, .lst 51 r6 false)]⟩
@[reducible] def os22_1 : List (XE × Shape) := [(.ex 0, ⟨[(9, .one (.own 200000))], [(200000, .lst 51 r6 false)]⟩)]
noncomputable def cx22_1 : Cx := ⟨Tryz.prog, [e49, e50, e51], [110, 114, 117, 121], 123, [(18, ce22_0)], []⟩
noncomputable def B22_1 : sh22_1.D → Option (sh22_1.D ⊕ OutsD os22_1) := round cx22_1 (sub [1, 1, 1, 1, 0, 1, 0, 0] b22) sh22_1 os22_1
noncomputable def ce22_1 : CE := ⟨sh22_1, os22_1, loop B22_1⟩
theorem okc22_1 : CEOK Tryz.prog 123 (.loop (sub [1, 1, 1, 1, 0, 1, 0, 0] b22)) ce22_1 := round_ok (cx := cx22_1) (fun R => step_sound (all_fe (P := Tryz.prog) (l := [e49, e50, e51]) ⟨ok49, ok50, ok51, trivial⟩) R) (needs_of (l := [((.loop (sub [1, 1, 1, 1, 0, 1, 0, 0, 1, 0, 0, 1, 0, 0, 0] b22)), ce22_0)]) (by kernel_rfl) ⟨okc22_0, trivial⟩) sh22_1 os22_1
noncomputable def cx22 : Cx := ⟨Tryz.prog, [e49, e50, e51], [110, 114, 117, 121], 123, [(18, ce22_0), (12, ce22_1)], [200000]⟩
noncomputable def F22 : sh22.D → Option out22.D := func cx22 Tryz.f22 b22 sh22 out22
noncomputable def e22 : FE := ⟨22, sh22, out22, F22⟩
theorem ok22 : FEOK Tryz.prog e22 := func_ok (cx := cx22) (fn := Tryz.f22) (c := b22) (all_fe (P := Tryz.prog) (l := [e49, e50, e51]) ⟨ok49, ok50, ok51, trivial⟩) (by kernel_rfl) (by kernel_rfl) (by kernel_rfl) (by kernel_rfl) (by kernel_rfl) (needs_of (l := [((.loop (sub [1, 1, 1, 1, 0, 1, 0, 0] b22)), ce22_1)]) (by kernel_rfl) ⟨okc22_1, trivial⟩)
@[reducible] def sh23 : Shape := ⟨[(0, .one (.d (.list r6))), (1, .one (.d (.list r6)))], []⟩
@[reducible] def out23 : Shape := ⟨[(0, .one (.d .bool))], []⟩
noncomputable def b23 : Code := Tryz.f23.body.getD .skip
@[reducible] def sh23_0 : Shape := ⟨[(0, .one (.d (.list r6))), (1, .one (.d (.list r6))), (5, .one (.d (.int .i64)))], []⟩
@[reducible] def os23_0 : List (XE × Shape) := [(.ret, ⟨[(4, .one (.d .bool))], []⟩), (.ex 0, ⟨[], []⟩)]
noncomputable def cx23_0 : Cx := ⟨Tryz.prog, [], [], 26, [], []⟩
noncomputable def B23_0 : sh23_0.D → Option (sh23_0.D ⊕ OutsD os23_0) := round cx23_0 (sub [1, 1, 0, 1, 0, 0] b23) sh23_0 os23_0
noncomputable def ce23_0 : CE := ⟨sh23_0, os23_0, loop B23_0⟩
theorem okc23_0 : CEOK Tryz.prog 26 (.loop (sub [1, 1, 0, 1, 0, 0] b23)) ce23_0 := round_ok (cx := cx23_0) (fun R => step_sound (all_fe (P := Tryz.prog) (l := []) trivial) R) (needs_of (l := []) (by kernel_rfl) trivial) sh23_0 os23_0
noncomputable def cx23 : Cx := ⟨Tryz.prog, [], [], 26, [(8, ce23_0)], []⟩
noncomputable def F23 : sh23.D → Option out23.D := func cx23 Tryz.f23 b23 sh23 out23
noncomputable def e23 : FE := ⟨23, sh23, out23, F23⟩
theorem ok23 : FEOK Tryz.prog e23 := func_ok (cx := cx23) (fn := Tryz.f23) (c := b23) (all_fe (P := Tryz.prog) (l := []) trivial) (by kernel_rfl) (by kernel_rfl) (by kernel_rfl) (by kernel_rfl) (by kernel_rfl) (needs_of (l := [((.loop (sub [1, 1, 0, 1, 0, 0] b23)), ce23_0)]) (by kernel_rfl) ⟨okc23_0, trivial⟩)
@[reducible] def sh25 : Shape := ⟨[(0, .one (.d (.list r6))), (1, .one (.d .str))], []⟩
@[reducible] def out25 : Shape := ⟨[(0, .row [.d .str, .d (.int .i64), .d (.int .i64), .d (.int .i64), .d .str, .d .str, .d (.int .i64), .d (.int .i64), .d (.int .i64), .d .str]), (1, .one (.d .bool))], []⟩
noncomputable def b25 : Code := Tryz.f25.body.getD .skip
@[reducible] def sh25_0 : Shape := ⟨[(0, .one (.d (.list r6))), (1, .one (.d .str)), (4, .one (.ptr 200000 0)), (6, .one (.d (.int .i64)))], [(200000, .box [.d .str, .d (.int .i64), .d (.int .i64), .d (.int .i64), .d .str, .d .str, .d (.int .i64), .d (.int .i64), .d (.int .i64), .d .str])]⟩
@[reducible] def os25_0 : List (XE × Shape) := [(.ret, ⟨[(4, .one (.ptr 200000 0)), (5, .one (.d .bool))], [(200000, .box [.d .str, .d (.int .i64), .d (.int .i64), .d (.int .i64), .d .str, .d .str, .d (.int .i64), .d (.int .i64), .d (.int .i64), .d .str])]⟩), (.ex 0, ⟨[(4, .one (.ptr 200000 0))], [(200000, .box [.d .str, .d (.int .i64), .d (.int .i64), .d (.int .i64), .d .str, .d .str, .d (.int .i64), .d (.int .i64), .d (.int .i64), .d .str])]⟩)]
noncomputable def cx25_0 : Cx := ⟨Tryz.prog, [], [], 25, [], []⟩
noncomputable def B25_0 : sh25_0.D → Option (sh25_0.D ⊕ OutsD os25_0) := round cx25_0 (sub [1, 0, 1, 0, 0] b25) sh25_0 os25_0
noncomputable def ce25_0 : CE := ⟨sh25_0, os25_0, loop B25_0⟩
theorem okc25_0 : CEOK Tryz.prog 25 (.loop (sub [1, 0, 1, 0, 0] b25)) ce25_0 := round_ok (cx := cx25_0) (fun R => step_sound (all_fe (P := Tryz.prog) (l := []) trivial) R) (needs_of (l := []) (by kernel_rfl) trivial) sh25_0 os25_0
noncomputable def cx25 : Cx := ⟨Tryz.prog, [], [], 25, [(4, ce25_0)], []⟩
noncomputable def F25 : sh25.D → Option out25.D := func cx25 Tryz.f25 b25 sh25 out25
noncomputable def e25 : FE := ⟨25, sh25, out25, F25⟩
theorem ok25 : FEOK Tryz.prog e25 := func_ok (cx := cx25) (fn := Tryz.f25) (c := b25) (all_fe (P := Tryz.prog) (l := []) trivial) (by kernel_rfl) (by kernel_rfl) (by kernel_rfl) (by kernel_rfl) (by kernel_rfl) (needs_of (l := [((.loop (sub [1, 0, 1, 0, 0] b25)), ce25_0)]) (by kernel_rfl) ⟨okc25_0, trivial⟩)
@[reducible] def sh31 : Shape := ⟨[(0, .row [.d (.list r2), .d (.list r3)]), (1, .row [.d .str, .d (.list r0), .d (.list r0), .d (.list r4)]), (2, .one (.d .str))], []⟩
@[reducible] def out31 : Shape := ⟨[(0, .one (.d (.list r0))), (1, .one (.d .bool))], []⟩
noncomputable def b31 : Code := Tryz.f31.body.getD .skip
@[reducible] def sh31_0 : Shape := ⟨[(8, .one (.own 200000)), (9, .one (.own 200001)), (15, .one (.own 200002)), (16, .one (.d (.int .i64)))], [(200000, .lst 43 r0 true), (200001, .lst 3 (.int .i64) false), (200002, .lst 43 r0 true)]⟩
@[reducible] def os31_0 : List (XE × Shape) := [(.ex 0, ⟨[(15, .one (.own 200000))], [(200000, .lst 43 r0 true)]⟩)]
noncomputable def cx31_0 : Cx := ⟨Tryz.prog, [e22, e25, e49, e59], [], 62, [], []⟩
noncomputable def B31_0 : sh31_0.D → Option (sh31_0.D ⊕ OutsD os31_0) := round cx31_0 (sub [1, 1, 1, 1, 1, 1, 0, 1, 0, 0] b31) sh31_0 os31_0
noncomputable def ce31_0 : CE := ⟨sh31_0, os31_0, loop B31_0⟩
theorem okc31_0 : CEOK Tryz.prog 62 (.loop (sub [1, 1, 1, 1, 1, 1, 0, 1, 0, 0] b31)) ce31_0 := round_ok (cx := cx31_0) (fun R => step_sound (all_fe (P := Tryz.prog) (l := [e22, e25, e49, e59]) ⟨ok22, ok25, ok49, ok59, trivial⟩) R) (needs_of (l := []) (by kernel_rfl) trivial) sh31_0 os31_0
noncomputable def cx31 : Cx := ⟨Tryz.prog, [e22, e25, e49, e59], [], 62, [(16, ce31_0)], []⟩
noncomputable def F31 : sh31.D → Option out31.D := func cx31 Tryz.f31 b31 sh31 out31
noncomputable def e31 : FE := ⟨31, sh31, out31, F31⟩
theorem ok31 : FEOK Tryz.prog e31 := func_ok (cx := cx31) (fn := Tryz.f31) (c := b31) (all_fe (P := Tryz.prog) (l := [e22, e25, e49, e59]) ⟨ok22, ok25, ok49, ok59, trivial⟩) (by kernel_rfl) (by kernel_rfl) (by kernel_rfl) (by kernel_rfl) (by kernel_rfl) (needs_of (l := [((.loop (sub [1, 1, 1, 1, 1, 1, 0, 1, 0, 0] b31)), ce31_0)]) (by kernel_rfl) ⟨okc31_0, trivial⟩)
@[reducible] def sh32 : Shape := ⟨[(0, .one (.d (.list r0))), (1, .one (.d (.list r0)))], []⟩
@[reducible] def out32 : Shape := ⟨[(0, .one (.d .bool))], []⟩
noncomputable def b32 : Code := Tryz.f32.body.getD .skip
@[reducible] def sh32_0 : Shape := ⟨[(0, .one (.d (.list r0))), (1, .one (.d (.list r0))), (5, .one (.d (.int .i64)))], []⟩
@[reducible] def os32_0 : List (XE × Shape) := [(.ret, ⟨[(4, .one (.d .bool))], []⟩), (.ex 0, ⟨[], []⟩)]
noncomputable def cx32_0 : Cx := ⟨Tryz.prog, [], [], 26, [], []⟩
noncomputable def B32_0 : sh32_0.D → Option (sh32_0.D ⊕ OutsD os32_0) := round cx32_0 (sub [1, 1, 0, 1, 0, 0] b32) sh32_0 os32_0
noncomputable def ce32_0 : CE := ⟨sh32_0, os32_0, loop B32_0⟩
theorem okc32_0 : CEOK Tryz.prog 26 (.loop (sub [1, 1, 0, 1, 0, 0] b32)) ce32_0 := round_ok (cx := cx32_0) (fun R => step_sound (all_fe (P := Tryz.prog) (l := []) trivial) R) (needs_of (l := []) (by kernel_rfl) trivial) sh32_0 os32_0
noncomputable def cx32 : Cx := ⟨Tryz.prog, [], [], 26, [(8, ce32_0)], []⟩
noncomputable def F32 : sh32.D → Option out32.D := func cx32 Tryz.f32 b32 sh32 out32
noncomputable def e32 : FE := ⟨32, sh32, out32, F32⟩
theorem ok32 : FEOK Tryz.prog e32 := func_ok (cx := cx32) (fn := Tryz.f32) (c := b32) (all_fe (P := Tryz.prog) (l := []) trivial) (by kernel_rfl) (by kernel_rfl) (by kernel_rfl) (by kernel_rfl) (by kernel_rfl) (needs_of (l := [((.loop (sub [1, 1, 0, 1, 0, 0] b32)), ce32_0)]) (by kernel_rfl) ⟨okc32_0, trivial⟩)
end Go.Vx.Z
/-! slices.SortFunc over an own list, by the shelf's contract, as an entry. -/
namespace Go.Vx
open Go Go.RowKit Go.Proofs Go.Shelf Go.Sort
set_option linter.unusedVariables false
set_option linter.unusedSimpArgs false
def rowShape : Ty → List SAC
  | .unit => []
  | .cons a b => .d a :: rowShape b
  | .int k => [.d (.int k)]
  | .bool => [.d .bool]
  | .str => [.d .str]
  | .list r => [.d (.list r)]
def toP : (r : Ty) → r.D → {X : Type} → X → rowP (rowShape r) X
  | .unit, _, _, y => y
  | .cons _ b, x, _, y => (x.1, toP b x.2 y)
  | .int _, x, _, y => (x, y)
  | .bool, x, _, y => (x, y)
  | .str, x, _, y => (x, y)
  | .list _, x, _, y => (x, y)
theorem em_toP : ∀ (r : Ty) (x : r.D) {X : Type} (y : X), emRow (rowShape r) (toP r x y) = (cellsOf r x, y)
  | .unit, _, _, _ => rfl
  | .cons a b, x, X, y => by
    have h := em_toP b x.2 y
    simp only [rowShape, toP, emRow, emAC, cellsOf, h]
  | .int _, _, _, _ => rfl
  | .bool, _, _, _ => rfl
  | .str, _, _, _ => rfl
  | .list _, _, _, _ => rfl
@[reducible] def shCmp (r : Ty) : Shape := ⟨[(0, .row (rowShape r)), (1, .row (rowShape r))], []⟩
@[reducible] def outI : Shape := ⟨[(0, .one (.d (.int .i64)))], []⟩
@[reducible] def shSort (e : Nat) (r : Ty) (g : Nat) : Shape := ⟨[(0, .one (.own 100000)), (1, .one (.fn g))], [(100000, .lst e r false)]⟩
@[reducible] def outSort (e : Nat) (r : Ty) : Shape := ⟨[], [(100000, .lst e r false)]⟩
/-- What the sort makes of a list: by places. -/
def sortIdx (lt : Nat → Nat → Bool) (n : Nat) : List Nat := (Sort.pdq lt (Array.range n) 0 n (Lib.bitLen n) true true).toList
def sortBy {α : Type} (cf : α → α → Int) : List α → List α
  | [] => []
  | x :: l => (sortIdx (ltOf fun i j => cf ((x :: l).getD i x) ((x :: l).getD j x)) (x :: l).length).map fun i => (x :: l).getD i x
def FSort (r : Ty) (e g : Nat) (ok : r.D → Bool) (cf : r.D → r.D → Int) : (shSort e r g).D → Option (outSort e r).D := fun p =>
  bif p.1.all ok && decide (p.1.length < 4611686018427387904) then some (sortBy cf p.1, ()) else none

theorem swo_at {α β : Type} {cf : α → α → Int} (h : SWO (ltOf cf)) (f : β → α) : SWO (ltOf fun i j => cf (f i) (f j)) :=
  ⟨fun x => h.irrefl (f x), fun x y z => h.trans (f x) (f y) (f z), fun x y z => h.ntrans (f x) (f y) (f z)⟩
theorem pdq_range {lt : Nat → Nat → Bool} (h : SWO lt) (n : Nat) : (sortIdx lt n).Perm (List.range n) := by
  obtain ⟨⟨h1, _, h2⟩, _⟩ := Sort.pdq_sorts lt h (Array.range n) 0 n (Lib.bitLen n) true true (Nat.zero_le _) (by simp) (Or.inl rfl)
  have gen : ∀ (A : Array Nat), A.size = n → A.extract 0 n = A := by intro A hA; subst hA; exact Array.extract_size
  have e1 := gen (Sort.pdq lt (Array.range n) 0 n (Lib.bitLen n) true true) (by rw [h1]; simp)
  have e2 := gen (Array.range n) (by simp)
  rw [e1, e2, Array.toList_range] at h2
  exact h2
theorem flatK_toList {α : Type} [Inhabited α] (enc : α → List Value) (k : Nat) (hk : ∀ x, (enc x).length = k) (d : Array α) : (flatK enc k d).toList = d.toList.flatMap enc := by
  apply List.ext_getElem
  · rw [Array.length_toList, size_flatK, List.length_flatMap]
    simp [hk, Function.comp_def]
    rw [List.map_const', List.sum_replicate_nat]; simp
  · intro t h1 h2
    rw [Array.length_toList, size_flatK] at h1
    have hk0 : 0 < k := by
      rcases Nat.eq_zero_or_pos k with h | h
      · subst h; simp at h1
      · exact h
    have hd : t / k < d.size := Nat.div_lt_of_lt_mul (by rw [Nat.mul_comm]; exact h1)
    have hm : t % k < k := Nat.mod_lt _ hk0
    have g1 := get_flatK enc k d t h1
    rw [getElem!_pos _ t (by rw [size_flatK]; exact h1)] at g1
    rw [Array.getElem_toList, g1]
    have key : ∀ (l : List α) (q : Nat), q < l.length → ∀ j, j < k → (l.flatMap enc)[q * k + j]? = (enc l[q]!)[j]? := by
      intro l
      induction l with
      | nil => intro q hq; simp at hq
      | cons x l ih =>
        intro q hq j hj
        rw [List.flatMap_cons]
        cases q with
        | zero => rw [List.getElem?_append_left (by rw [hk]; omega)]; simp
        | succ q =>
          rw [List.getElem?_append_right (by rw [hk, Nat.add_mul]; omega), hk, show (q + 1) * k + j - k = q * k + j by rw [Nat.add_mul]; omega]
          rw [ih q (by simpa using hq) j hj]
          simp
    have h3 := key d.toList (t / k) (by simpa using hd) (t % k) hm
    rw [Nat.mul_comm, Nat.div_add_mod, List.getElem?_eq_getElem h2] at h3
    have h4 : d.toList[t / k]! = d[t / k]! := by
      rw [getElem!_pos d.toList _ (by simpa using hd), getElem!_pos d _ hd]
      simp
    rw [h4, List.getElem?_eq_getElem (by rw [hk]; exact hm)] at h3
    injection h3 with h3
    rw [h3, getElem!_pos _ _ (by rw [hk]; exact hm)]
theorem onCells_at (f : Array Value → Array Value) (cs : Array Value) (t : TypeId) (z : Nat × Nat) : Sort.onCells f (.cells cs t z) = .cells (f cs) t z := rfl
section
variable {P : Program} {ρ : Shelf.Ren}
/-- The element at a place, or the first. -/
def vsAt (k : Nat) (vs : List Value) (n : Nat) (i : Nat) : List Value := (vs.drop ((if i < n then i else 0) * k)).take k
theorem world_grown {W w' : World} (h1 : w'.os = W.os) (h2 : w'.tape = W.tape) (h3 : w'.output = W.output) (h4 : W.heap.size ≤ w'.heap.size) (h5 : ∀ k, k < W.heap.size → w'.heap[k]? = W.heap[k]?) (h6 : W.drawn ≤ w'.drawn) :
    ∃ q os', w' = grow (W.drewN q) os' := by
  refine ⟨w'.drawn - W.drawn, w'.heap.extract W.heap.size w'.heap.size, ?_⟩
  obtain ⟨wh, wt, wd, wo, wp⟩ := w'
  obtain ⟨Wh, Wt, Wd, Wo, Wp⟩ := W
  simp only at h1 h2 h3 h4 h5 h6
  subst h1 h2 h3
  simp only [grow, World.drewN, World.mk.injEq, true_and, and_true]
  refine ⟨?_, by omega⟩
  apply Array.ext
  · simp; omega
  · intro i hi hi'
    rw [Array.getElem_append]
    split
    · rename_i hlt
      have := h5 i hlt
      rw [Array.getElem?_eq_getElem hi, Array.getElem?_eq_getElem hlt] at this
      exact Option.some.inj this
    · rename_i hlt
      rw [Array.getElem_extract]
      congr 1
      omega
theorem sort_ok (L : SlLaysF0.n6 P ρ) (none_ok : ∀ (p : Option Addr) (cap : Nat) (fv : Value) (w : World), Calls P (ρ.f 6) #[.slice p 0 cap, fv] w fun e w' => e = .returned (.tuple #[]) ∧ w' = w)
    (ents : ∀ args w, (callFunc (ρ.f 6) args).run P w = .ok (.enter (ρ.f 6) args) w)
    {r : Ty} {e g : Nat} (aE : ∀ w, (Go.isAgg (ρ.t 24)).run P w = .ok true w) (zE : ∀ w, (Go.sizeOf (ρ.t 24)).run P w = .ok r.width w)
    {Fc : (shCmp r).D → Option outI.D} (hc : FEOK P ⟨g, shCmp r, outI, Fc⟩) (eg : ∀ args w, (callFunc g args).run P w = .ok (.enter g args) w)
    (cf : r.D → r.D → Int) (ok : r.D → Bool) (hcf : ∀ x y, ok x = true → ok y = true → Fc (toP r x (toP r y ())) = some (cf x y, ())) (hO : SWO (ltOf cf)) :
    FEOK P ⟨ρ.f 6, shSort e r g, outSort e r, FSort r e g ok cf⟩ := by
  intro p res hF gh w args hsz hH hargs
  obtain ⟨xs, u⟩ := p
  unfold FSort at hF
  simp only at hF
  cases hcond : (xs.all ok && decide (xs.length < 4611686018427387904)) with
  | false => rw [hcond] at hF; cases hF
  | true =>
  rw [hcond] at hF
  simp only [cond_true, Option.some.injEq] at hF
  subst hF
  simp only [Bool.and_eq_true, decide_eq_true_eq, List.all_eq_true] at hcond
  obtain ⟨hok, hlen⟩ := hcond
  have hm : (embed (shSort e r g) (xs, u)).blk 100000 = some (.lst e r xs false) := rfl
  obtain ⟨h1a, h1b, h1c⟩ : RepC gh (embed (shSort e r g) (xs, u)).blk w (.own 100000) (args.getD 0 undef) := hargs 0
  have h2 : args.getD 1 undef = .func (.func g) #[] #[] := hargs 1
  have hargs2 : args = #[gh.val 100000, .func (.func g) #[] #[]] := by
    have hsz : args.size = 2 := hsz
    apply Array.ext
    · simpa using hsz
    · intro i q1 q2
      simp at q2
      match i, q2 with
      | 0, _ => simpa [Array.getD, q1] using h1b
      | 1, _ => simpa [Array.getD, q1] using h2
  obtain ⟨vs, hown, hvs, hw0, _⟩ := hH.blk 100000 _ hm
  refine .inr ⟨ents _ _, ?_⟩
  rw [hargs2]
  -- the end, from a world that holds the new row
  have fin : ∀ (w' : World) (ys : List r.D) (vs' : List Value) (gb : Nat), gh.blk 100000 = some gb → w.grownBy w' (some gb) → w.drawn ≤ w'.drawn → w'.ownsRow 0 e r.width (gh.val 100000) ys.length vs' → RepCs gh (embed (shSort e r g) (xs, u)).blk w (rowsCells r ys) vs' →
      Ret (outSort e r) (ys, ()) gh (embed (shSort e r g) (xs, u)).blk w (.tuple #[]) w' := by
    intro w' ys vs' gb hgb hG hdr ho hr
    have hput := heap_put hH hm rfl (b' := .lst e r ys false) rfl hgb (fun x h => by obtain ⟨h, _⟩ := h; cases h) hdr hG (fun hc hext => by
      exact ⟨vs', ho, repCs_mono (g := gh) (g' := gh) (m := (embed (shSort e r g) (xs, u)).blk) (fun _ h => h) hc hext hr, hw0, fun hf => by cases hf⟩)
    obtain ⟨hH2, hT2, _⟩ := hput
    have hme : upd (embed (shSort e r g) (xs, u)).blk 100000 (.lst e r ys false) = (embed (outSort e r) (ys, ())).blk := by
      funext i
      show (bif Nat.beq 100000 i then some _ else lookM i _) = lookM i _
      simp only [embed, emMem, emBlk, lookM]
      cases Nat.beq 100000 i <;> rfl
    rw [hme] at hH2 hT2
    exact ⟨gh, hH2, hT2, ⟨#[], rfl, .nil⟩⟩
  rcases hown.2 with ⟨hv, h0⟩ | ⟨gb, cap, cur, hv, _, hg, hnc, hcm, hcs, htk⟩
  · -- nil
    rw [hv]
    have hx : xs = [] := List.eq_nil_of_length_eq_zero h0
    subst hx
    refine Calls.mono (none_ok none 0 _ w) fun ev w' ⟨he, hw⟩ => ⟨_, he, ?_⟩
    subst hw
    have hme : (embed (shSort e r g) (([] : List r.D), u)).blk = (embed (outSort e r) (([] : List r.D), ())).blk := by funext i; rfl
    refine ⟨gh, ?_, ?_, ⟨#[], rfl, .nil⟩⟩
    · show HeapOK gh (embed (outSort e r) (([] : List r.D), ())).blk w'
      rw [← hme]; exact hH
    · show Tr gh _ w' gh (embed (outSort e r) (([] : List r.D), ())).blk w'
      rw [← hme]; exact Tr.refl _ _ _
  · rw [hv]
    have hgb : gh.blk 100000 = some gb := by simp [Gh.blk, hv, blockOfV]
    have hglt : gb < w.heap.size := (Array.getElem?_eq_some_iff.1 hg).1
    cases xs with
    | nil =>
      refine Calls.mono (none_ok _ cap _ w) fun ev w' ⟨he, hw⟩ => ⟨_, he, ?_⟩
      subst hw
      have hme : (embed (shSort e r g) (([] : List r.D), u)).blk = (embed (outSort e r) (([] : List r.D), ())).blk := by funext i; rfl
      refine ⟨gh, ?_, ?_, ⟨#[], rfl, .nil⟩⟩
      · show HeapOK gh (embed (outSort e r) (([] : List r.D), ())).blk w'
        rw [← hme]; exact hH
      · show Tr gh _ w' gh (embed (outSort e r) (([] : List r.D), ())).blk w'
        rw [← hme]; exact Tr.refl _ _ _
    | cons x0 l =>
      generalize hX : x0 :: l = X at *
      have hX0 : 0 < X.length := by rw [← hX]; simp
      have hvl : vs.length = X.length * r.width := hown.1
      have hclamp : ∀ i, (if i < X.length then i else 0) < X.length := fun i => by split <;> omega
      have henc : ∀ i, (vsAt r.width vs X.length i).length = r.width := fun i => by
        unfold vsAt
        rw [List.length_take, List.length_drop, hvl]
        have := Nat.mul_le_mul_right r.width (show (if i < X.length then i else 0) + 1 ≤ X.length from hclamp i)
        rw [Nat.add_mul, Nat.one_mul] at this
        omega
      have hrep : ∀ i, RepCs gh (embed (shSort e r g) (X, u)).blk w (cellsOf r (X.getD i x0)) (vsAt r.width vs X.length i) := fun i => by
        unfold vsAt
        have hi := hclamp i
        have hgx : X[if i < X.length then i else 0]? = some (X.getD i x0) := by
          split
          · rename_i hlt; simp [List.getD, hlt]
          · rename_i hlt
            rw [show X.getD i x0 = x0 by simp [List.getD, Nat.le_of_not_lt hlt], ← hX]
            rfl
        rw [← rowsCells_at X _ _ hgx]
        exact (hvs.drop _).take _
      have hone : ∀ i, ∀ v ∈ vsAt r.width vs X.length i, v.oneCell' = true := fun i => repCs_one (hrep i) (cellsOf_ok _)
      have hokX : ∀ i, ok (X.getD i x0) = true := fun i => by
        refine hok _ ?_
        by_cases hlt : i < X.length
        · simp only [List.getD, List.getElem?_eq_getElem hlt, Option.getD_some]; exact List.getElem_mem hlt
        · rw [show X.getD i x0 = x0 by simp [List.getD, Nat.le_of_not_lt hlt], ← hX]; simp
      let cI : Nat → Nat → Int := fun i j => cf (X.getD i x0) (X.getD j x0)
      have hOI : SWO (ltOf cI) := swo_at hO fun i => X.getD i x0
      have hflat : (flatK (vsAt r.width vs X.length) r.width (Array.range X.length)).toList = vs := by
        rw [flatK_toList _ _ henc, Array.toList_range]
        have key : ∀ n, n ≤ X.length → (List.range n).flatMap (vsAt r.width vs X.length) = vs.take (n * r.width) := by
          intro n
          induction n with
          | zero => intro _; simp
          | succ n ih =>
            intro hn
            rw [List.range_succ, List.flatMap_append, ih (by omega), List.flatMap_cons, List.flatMap_nil, List.append_nil]
            unfold vsAt
            rw [if_pos (by omega), Nat.add_mul, Nat.one_mul, List.take_add]
        rw [key _ (Nat.le_refl _), ← hvl, List.take_length]
      have hHK : HoldsK (vsAt r.width vs X.length) r.width w gb 0 (Array.range X.length) := by
        intro j hj
        rw [size_flatK, Array.size_range] at hj
        rw [Nat.zero_add]
        have hown' : w.ownsRow 0 e r.width (.slice (some ⟨gb, 0, none⟩) X.length cap) X.length vs := by rw [← hv]; exact hown
        refine ⟨?_, hown'.frozenAt j⟩
        rw [hown'.cellAt j hj]
        have e1 := get_flatK (vsAt r.width vs X.length) r.width (Array.range X.length) j (by simpa using hj)
        have hlt : j < (flatK (vsAt r.width vs X.length) r.width (Array.range X.length)).size := by simpa using hj
        rw [getElem!_pos _ j hlt, ← Array.getElem_toList]
        simp only [hflat]
        rw [List.getElem?_eq_getElem (by rw [hvl]; exact hj)]
        rfl
      -- the stable cells lie elsewhere
      have hng : ∀ x, gh.S x → x.block ≠ gb := fun x hx e' => by
        have := hH.sep x hx 100000 _ hm (by rw [hgb, e'])
        obtain ⟨h, _⟩ := this
        cases h
      have hheap : ∀ m os dk k, k ≠ gb → k < w.heap.size → (sortWorldK (vsAt r.width vs X.length) r.width w gb 0 m dk os).heap[k]? = w.heap[k]? := by
        intro m os dk k hk hlt
        unfold sortWorldK putRowK putRow mapBlock grow Sort.ahead
        simp only
        rw [Array.getElem?_append_left (by simpa using hlt), Array.getElem?_modify, if_neg (Ne.symm hk)]
      have hsize : ∀ m os dk, w.heap.size ≤ (sortWorldK (vsAt r.width vs X.length) r.width w gb 0 m dk os).heap.size := by
        intro m os dk
        unfold sortWorldK putRowK putRow mapBlock grow Sort.ahead
        simp
      have hcell : ∀ m os dk x, gh.S x → (sortWorldK (vsAt r.width vs X.length) r.width w gb 0 m dk os).cell? x = w.cell? x := fun m os dk x hx =>
        World.cell?_of_block (hheap m os dk x.block (hng x hx) (hH.S_lt hx))
      have hcmp : CmpLays P g #[] (vsAt r.width vs X.length) r.width cI gb 0 (Array.range X.length).size w := by
        intro m os dk hdk i j
        generalize hWd : sortWorldK (vsAt r.width vs X.length) r.width w gb 0 m dk os = W
        have hcW : ∀ x, gh.S x → W.cell? x = w.cell? x := fun x hx => by rw [← hWd]; exact hcell m os dk x hx
        have hHW : HeapOK gh (fun _ => none) W := ⟨fun id b h => (by cases h), fun i j b c h => (by cases h), fun x hx id b h => (by cases h), fun x hx => by
          obtain ⟨q1, v, q2⟩ := hH.st x hx
          exact ⟨q1, v, by rw [hcW x hx]; exact q2⟩⟩
        have hrW : ∀ i, RepCs gh (fun _ => none) W (cellsOf r (X.getD i x0)) (vsAt r.width vs X.length i) := fun i => by
          refine all2_of_mem (fun a ha v hv => ?_) (hrep i)
          obtain ⟨t, y, rfl⟩ := cellsOf_c ha
          exact repD_mono (S := gh.S) (w := w) (fun _ h => h) hcW (hv : RepD gh.S w t y v)
        have hFc := hcf _ _ (hokX i) (hokX j)
        have henv : (embed (shCmp r) (toP r (X.getD i x0) (toP r (X.getD j x0) ()))).env = [(0, .v (.row (cellsOf r (X.getD i x0)))), (1, .v (.row (cellsOf r (X.getD j x0))))] := by
          simp only [embed, emEnv, emA1, em_toP]
        have hdoes := hc _ _ hFc gh W #[.agg (vsAt r.width vs X.length i).toArray, .agg (vsAt r.width vs X.length j).toArray] rfl hHW (fun t => by
          show RepV gh (fun _ => none) W (lookE t (embed (shCmp r) (toP r (X.getD i x0) (toP r (X.getD j x0) ()))).env) _
          rw [henv]
          match t with
          | 0 => exact ⟨_, rfl, by simpa using hrW i⟩
          | 1 => exact ⟨_, rfl, by simpa using hrW j⟩
          | t + 2 => trivial)
        rcases hdoes with ⟨v, w', q1, _⟩ | ⟨_, q2⟩
        · rw [eg] at q1; cases q1
        · refine Calls.mono q2 fun ev w' ⟨v, he, gh', hH', hT', hres⟩ => ?_
          have hv' : v = .int .i64 (cI i j) := hres
          refine ⟨by rw [he, hv'], ?_⟩
          exact world_grown hT'.os hT'.tape hT'.output hT'.size (fun k hk => hT'.same k hk fun id b h => by cases h) hT'.drawn
      have hcon := AnyQ.slices_SortFunc_eq L r.width aE zE (vsAt r.width vs X.length) henc hone cI hOI g #[] gb 0 cap (Array.range X.length) w eg hcmp hHK hglt (by simpa using hlen)
      rw [show (Array.range X.length).size = X.length by simp] at hcon
      refine Calls.mono hcon fun ev w' ⟨he, n, os, hw'⟩ => ⟨_, he, ?_⟩
      -- the new row
      have hperm := pdq_range hOI X.length
      generalize hD : Sort.pdq (ltOf cI) (Array.range X.length) 0 X.length (Lib.bitLen X.length) true true = D at hw'
      have hDl : sortIdx (ltOf cI) X.length = D.toList := by rw [← hD]; rfl
      rw [hDl] at hperm
      have hDs : D.size = X.length := by have := hperm.length_eq; simpa using this
      have hys : sortBy cf X = D.toList.map fun i => X.getD i x0 := by
        rw [← hDl]
        have : ∀ Y : List r.D, x0 :: l = Y → sortBy cf Y = (sortIdx (ltOf fun i j => cf (Y.getD i x0) (Y.getD j x0)) Y.length).map fun i => Y.getD i x0 := by
          intro Y hY
          subst hY
          rfl
        exact this X hX
      rw [hys]
      have hF := flatK_toList (vsAt r.width vs X.length) r.width henc D
      have hFs : (flatK (vsAt r.width vs X.length) r.width D).size = X.length * r.width := by rw [size_flatK, hDs]
      refine fin w' _ (D.toList.flatMap (vsAt r.width vs X.length)) gb hgb ?_ ?_ ?_ ?_
      · refine ⟨by rw [hw']; rfl, by rw [hw']; rfl, by rw [hw']; rfl, by rw [hw']; exact hsize n os D, fun k hk hne => by rw [hw']; exact hheap n os D k (fun e' => hne (by rw [e'])) hk⟩
      · rw [hw']
        show w.drawn ≤ w.drawn + n
        omega
      · have hDl2 : D.toList.length = X.length := by simpa using hDs
        rw [hv, List.length_map, hDl2]
        refine ⟨by rw [← hF, Array.length_toList, hFs], .inr ⟨gb, cap, putCells id 0 (flatK (vsAt r.width vs X.length) r.width D) cur, rfl, Nat.zero_le _, ?_, hnc, hcm, by unfold putCells; rw [Array.size_mapIdx]; exact hcs, ?_⟩⟩
        · rw [hw']
          unfold sortWorldK putRowK putRow mapBlock grow Sort.ahead
          simp only
          rw [Array.getElem?_append_left (by simpa using hglt), Array.getElem?_modify, if_pos rfl, hg]
          rfl
        · rw [← hF]
          apply List.ext_getElem?
          intro t
          rw [List.getElem?_take]
          have hle : X.length * r.width ≤ cap * r.width := Nat.mul_le_mul_right _ hnc
          split
          · rename_i hlt
            have htc : t < cur.size := by rw [hcs]; omega
            have htF : t < (flatK (vsAt r.width vs X.length) r.width D).size := by rw [hFs]; exact hlt
            rw [Array.getElem?_toList, Array.getElem?_toList, Array.getElem?_eq_getElem htF]
            unfold putCells
            rw [Array.getElem?_mapIdx, Array.getElem?_eq_getElem htc]
            simp only [Option.map_some, Nat.zero_le, Nat.zero_add, true_and, Nat.sub_zero, id_eq]
            rw [if_pos htF, getElem!_pos _ t htF]
          · rename_i hlt
            rw [Array.getElem?_toList, Array.getElem?_eq_none (by rw [hFs]; omega)]
      · have : ∀ (M : List Nat), RepCs gh (embed (shSort e r g) (X, u)).blk w (rowsCells r (M.map fun i => X.getD i x0)) (M.flatMap (vsAt r.width vs X.length)) := by
          intro M
          induction M with
          | nil => exact .nil
          | cons i M ih =>
            rw [List.map_cons, List.flatMap_cons]
            unfold rowsCells
            rw [List.flatMap_cons]
            exact All2.append (hrep i) ih
        exact this _
end
end Go.Vx
/-! A range over a function: what its rounds need of the evaluator. -/
namespace Go.Vx
open Go Go.RowKit
set_option linter.unusedVariables false
set_option linter.unusedSimpArgs false
variable {R : Type}
/-- The widest fence, in a round or not. -/
def Fw (ro : Option Nat) : Fence := { Fence.wide with round := ro }
theorem fw_none : Fw none = Fence.wide := rfl
theorem fw_some (l : Nat) : Fw (some l) = Fence.wide.inRound l := rfl
theorem oper_in {P : Program} {o : Oper} {a : Act} {w : World} {next : Act → World → Prop} {Q : Exit → Act → World → Prop} {ro : Option Nat} (hd : ∀ c, o.op ≠ .defer c) (h : o.wp P a w next Q) : o.wpIn (Fw ro) 0 P a w next Q := by
  refine ⟨fun _ _ => trivial, ?_⟩
  rw [Oper.semAt_eq _ _ _ hd]
  unfold Oper.wp at h
  revert h
  cases (execOp a.eval o).run P w with
  | ok v w' =>
    cases v with
    | value v => intro h; exact h
    | skip => intro h; exact h
    | «defer» d => intro h; exact h
    | enter f args => intro h; exact ⟨fun e => by simp [Fw, Fence.wide] at e, callsIn_wide.2 h⟩
    | row row args =>
      intro h
      refine ⟨fun e => by simp [Fw, Fence.wide] at e, fun c cs _ => ?_⟩
      obtain ⟨v, w', h1, h2⟩ := h c cs
      exact ⟨v, w', h1, stepsIn_wide.2 h2⟩
    | round l f tmps assign body => intro h; exact h.elim
    | _ => intro h; exact h.elim
  | halt x w' =>
    cases x with
    | panic v => intro h; exact h
    | _ => intro h; exact h.elim
abbrev dfr (d : List Deferred) (a : Act) : Act := { a with defers := d }
def simpleOp (o : Oper) : Bool := match o.op with
  | .load _ _ => true
  | .move _ => true
  | .assign _ => true
  | _ => false
theorem oper_in_d {P : Program} {o : Oper} {a : Act} {w : World} {next : Act → World → Prop} {Q : Exit → Act → World → Prop} {ro : Option Nat} (d : List Deferred) (hd : simpleOp o = true)
    (h : o.wp P a w (fun a w => next (dfr d a) w) (fun e a w => Q e (dfr d a) w)) : o.wpIn (Fw ro) 0 P (dfr d a) w next Q := by
  refine ⟨fun _ _ => trivial, ?_⟩
  rw [Oper.semAt_eq _ _ _ (fun c e => by simp [simpleOp, e] at hd)]
  unfold Oper.wp at h
  show o.uponIn (Fw ro) 0 P (dfr d a) next Q ((execOp a.eval o).run P w)
  have hp : ∀ v, (dfr d a).put o.dst v = dfr d (a.put o.dst v) := fun v => by unfold Act.put; cases o.dst <;> rfl
  have hv : ∀ v, (execOp a.eval o).run P w = .ok (.value v) w → o.uponIn (Fw ro) 0 P (dfr d a) next Q ((execOp a.eval o).run P w) := fun v e => by
    rw [e] at h ⊢
    show next _ _
    rw [hp]
    exact h
  unfold simpleOp at hd
  split at hd
  · rename_i t x ho
    have e : execOp a.eval o = (do pure (.value (← Instr.loadAt t (a.eval x))) : Sem Next) := by unfold execOp; rw [ho]
    rw [e] at h ⊢
    rw [Sem.run_bind] at h ⊢
    cases hl : (Instr.loadAt t (a.eval x)).run P w with
    | ok v w' =>
      rw [hl] at h
      simp only [Result.andThen, Sem.run_pure] at h ⊢
      show next _ _
      rw [hp]
      exact h
    | halt x w' =>
      rw [hl] at h
      simp only [Result.andThen] at h ⊢
      cases x with
      | panic v => exact h
      | _ => exact h.elim
  · rename_i x ho
    exact hv (a.eval x) (by unfold execOp; rw [ho]; rfl)
  · rename_i x ho
    exact hv (a.eval x) (by unfold execOp; rw [ho]; rfl)
  · cases hd
def noDefer (o : Oper) : Bool := match o.op with
  | .defer _ => false
  | _ => true
theorem noDefer_ne {o : Oper} (h : noDefer o = true) : ∀ c, o.op ≠ .defer c := fun c e => by simp [noDefer, e] at h
theorem wp_tmps {P : Program} {o : Oper} {a : Act} {w : World} {next : Act → World → Prop} {Q : Exit → Act → World → Prop} {I : Array Value → Prop} (hI : ∀ v, I (a.put o.dst v).tmps) (h : o.wp P a w (fun a w => I a.tmps → next a w) Q) : o.wp P a w next Q := by
  unfold Oper.wp at h ⊢
  revert h
  cases (execOp a.eval o).run P w with
  | ok v w' =>
    cases v with
    | value v => intro h; exact h (hI v)
    | skip => intro h; exact h (hI _)
    | «defer» d =>
      intro h
      refine h ?_
      have := hI undef
      unfold Act.put at this ⊢
      cases hd : o.dst with
      | none => rw [hd] at this; exact this
      | some t => rw [hd] at this; exact this
    | enter f args =>
      intro h
      refine Calls.mono h fun e w'' hh => ?_
      cases e with
      | returned v => exact hh (hI v)
      | panicked ch => exact hh
      | outgrown => exact hh
    | row row args => intro h; exact Rows.mono h fun v w' hh => hh (hI v)
    | round l f tmps assign body => intro h; exact h
    | _ => intro h; exact h
  | halt x w' =>
    cases x with
    | panic v => intro h; exact h
    | _ => intro h; exact h.elim
def Keep (I : Array Value → Prop) (os : List Oper) : Prop := ∀ o ∈ os, ∀ (a : Act) v, I a.tmps → I (a.put o.dst v).tmps
theorem keep_true (os : List Oper) : Keep (fun _ => True) os := fun _ _ _ _ _ => trivial
theorem keep_slot {s : Nat} {v : Value} {os : List Oper} (h : os.all (fun o => match o.dst with | some d => !Nat.beq d s | none => true) = true) : Keep (fun t => t.getD s undef = v) os := by
  intro o ho a u hu
  have := List.all_eq_true.1 h o ho
  unfold Act.put
  cases hd : o.dst with
  | none => exact hu
  | some d =>
    rw [hd] at this
    simp only [Bool.not_eq_true'] at this
    have hne : d ≠ s := fun e => by rw [e] at this; simp at this
    show (a.tmps.setIfInBounds d u).getD s undef = v
    rw [← hu]
    simp [Array.getD_eq_getD_getElem?, Array.getElem?_setIfInBounds, hne]
theorem keep_and {I J : Array Value → Prop} {os : List Oper} (h : Keep I os) (k : Keep J os) : Keep (fun t => I t ∧ J t) os := fun o ho a v ⟨h1, h2⟩ => ⟨h o ho a v h1, k o ho a v h2⟩
theorem trace_in {P : Program} {n : Nat} {ops : Array Oper} {Q : Exit → Act → World → Prop} {C : Ctx} {ro : Option Nat} {I : Array Value → Prop} (hn : C.n = n) (rest : List Nat) : ∀ (os : List Oper) (i : Nat) (σ : St) (es : List Eff), (∀ j o, os[j]? = some o → ops[i + j]? = some o) → (∀ o ∈ os, noDefer o = true) → Keep I os → Trace P n ops os σ es →
    (∀ gh a w, Sim C gh (endOf os σ es) a w → I a.tmps → wpOpsIn (Fw ro) 0 P ops Q rest a w) → ∀ gh a w, Sim C gh σ a w → I a.tmps → wpOpsIn (Fw ro) 0 P ops Q (List.range' i os.length ++ rest) a w
  | [], i, σ, [], _, _, _, _, hQ, gh, a, w, hs, hI => hQ gh a w hs hI
  | [], _, _, _ :: _, _, _, _, h, _, _, _, _, _, _ => h.elim
  | _ :: _, _, _, [], _, _, _, h, _, _, _, _, _, _ => h.elim
  | o :: os, i, σ, e :: es, ho, hd, hk, h, hQ, gh, a, w, hs, hI => by
    have h0 : ops[i]? = some o := by simpa using ho 0 o rfl
    have hrec := trace_in (ro := ro) hn rest os (i + 1) (σ.apply o.dst e) es (fun j o' hj => by rw [Nat.add_assoc, Nat.add_comm 1 j]; exact ho (j + 1) o' (by simpa using hj)) (fun o' ho' => hd o' (List.mem_cons_of_mem _ ho')) (fun o' ho' => hk o' (List.mem_cons_of_mem _ ho')) h.2 hQ
    simp only [List.length_cons, List.range'_succ, List.cons_append, wpOpsIn, h0]
    have hput : ∀ v, I (a.put o.dst v).tmps := fun v => hk o (by simp) a v hI
    have := h.1 C gh σ a w (fun a w => I a.tmps → wpOpsIn (Fw ro) 0 P ops Q (List.range' (i + 1) os.length ++ rest) a w) Q hn (agree_iff.2 fun _ _ => rfl) hs (fun gh' a' w' hs' => hrec gh' a' w' hs')
    split
    · rename_i hw
      rw [if_pos hw] at this
      exact oper_in (noDefer_ne (hd o (by simp))) (wp_tmps hput this)
    · rename_i hw
      rw [if_neg hw] at this
      exact ⟨fun _ _ => trivial, this (hput _)⟩
theorem trace_in_d {P : Program} {n : Nat} {ops : Array Oper} {Q : Exit → Act → World → Prop} {C : Ctx} {ro : Option Nat} (d : List Deferred) (hn : C.n = n) : ∀ (os : List Oper) (i : Nat) (σ : St) (es : List Eff), (∀ j o, os[j]? = some o → ops[i + j]? = some o) → (∀ o ∈ os, simpleOp o = true) → Trace P n ops os σ es →
    (∀ gh a w, Sim C gh (endOf os σ es) a w → Q .normal (dfr d a) w) → ∀ gh a w, Sim C gh σ a w → wpOpsIn (Fw ro) 0 P ops Q (List.range' i os.length) (dfr d a) w
  | [], i, σ, [], _, _, _, hQ, gh, a, w, hs => hQ gh a w hs
  | [], _, _, _ :: _, _, _, h, _, _, _, _, _ => h.elim
  | _ :: _, _, _, [], _, _, h, _, _, _, _, _ => h.elim
  | o :: os, i, σ, e :: es, ho, hd, h, hQ, gh, a, w, hs => by
    have h0 : ops[i]? = some o := by simpa using ho 0 o rfl
    have hrec := trace_in_d (ro := ro) d hn os (i + 1) (σ.apply o.dst e) es (fun j o' hj => by rw [Nat.add_assoc, Nat.add_comm 1 j]; exact ho (j + 1) o' (by simpa using hj)) (fun o' ho' => hd o' (List.mem_cons_of_mem _ ho')) h.2 hQ
    simp only [List.length_cons, List.range'_succ, wpOpsIn, h0]
    have := h.1 C gh σ a w (fun a w => wpOpsIn (Fw ro) 0 P ops Q (List.range' (i + 1) os.length) (dfr d a) w) (fun e a w => Q e (dfr d a) w) hn (agree_iff.2 fun _ _ => rfl) hs (fun gh' a' w' hs' => hrec gh' a' w' hs')
    split
    · rename_i hw
      have hw' : Region.wanted o (yielded ops a.tmps) = true := hw
      rw [if_pos hw'] at this
      exact oper_in_d d (hd o (by simp)) this
    · rename_i hw
      have hw' : ¬ Region.wanted o (yielded ops a.tmps) = true := hw
      rw [if_neg hw'] at this
      refine ⟨fun _ _ => trivial, ?_⟩
      have hp : ∀ v, (dfr d a).put o.dst v = dfr d (a.put o.dst v) := fun v => by unfold Act.put; cases o.dst <;> rfl
      rw [hp]
      exact this
/-- The first operations of a region. -/
theorem ops_in {cx : Cx} (hst : ∀ R : Type, StepSound R cx) {ops : Array Oper} {Q : Exit → Act → World → Prop} {ro : Option Nat} {I : Array Value → Prop} {os all : List Oper} {σ : St} {K : St → Option R} {r : R} {i : Nat} (hall : all = ops.toList) (hd : os.all noDefer = true) (hk : Keep I os) (ho : ∀ j o, os[j]? = some o → ops[i + j]? = some o)
    (h : runOps cx all os σ [] (fun _ τ => K τ) = some r) (rest : List Nat) {C : Ctx} {gh : Gh} {a : Act} {w : World} (hn : C.n = cx.n) (hs : Sim C gh σ a w) (hI : I a.tmps)
    (hQ : ∀ τ, K τ = some r → ∀ gh' a' w', Sim C gh' τ a' w' → I a'.tmps → wpOpsIn (Fw ro) 0 cx.T ops Q rest a' w') : wpOpsIn (Fw ro) 0 cx.T ops Q (List.range' i os.length ++ rest) a w := by
  subst hall
  obtain ⟨es, τ', h1, h2, h3⟩ := runOps_sound (hst _) _ _ _ _ _ _ h
  have hot : ops.toList.toArray = ops := by simp
  rw [hot] at h1
  exact trace_in hn rest os i σ es ho (fun o ho => List.all_eq_true.1 hd o ho) hk h1 (fun gh' a' w' hs' hI' => hQ _ h3 gh' a' w' (sim_same h2 hs') hI') gh a w hs hI
/-- A region whole. -/
theorem region_in' {cx : Cx} (hst : ∀ R : Type, StepSound R cx) {id : Nat} {ops : Array Oper} {Q : Exit → Act → World → Prop} {ro : Option Nat} {I : Array Value → Prop} {σ : St} {K : St → Option R} {r : R} (hd : ops.toList.all noDefer = true) (hk : Keep I ops.toList)
    (h : runOps cx ops.toList ops.toList σ [] (fun _ τ => K τ) = some r) {C : Ctx} {gh : Gh} {a : Act} {w : World} (hn : C.n = cx.n) (hs : Sim C gh σ a w) (hI : I a.tmps)
    (hQ : ∀ τ, K τ = some r → ∀ gh' a' w', Sim C gh' τ a' w' → I a'.tmps → Q .normal a' w') : (Code.region id ops false).wpIn (Fw ro) 0 cx.T Q a w := by
  refine wpIn_region ?_
  have := ops_in (Q := Q) (ro := ro) (i := 0) hst rfl hd hk (ops := ops) (os := ops.toList) (fun j o ho => by simpa using ho) h [] hn hs hI (fun τ hK gh' a' w' hs' hI' => hQ τ hK gh' a' w' hs' hI')
  rw [List.range_eq_range']
  simpa using this
theorem region_in {cx : Cx} (hst : ∀ R : Type, StepSound R cx) {id : Nat} {ops : Array Oper} {Q : Exit → Act → World → Prop} {ro : Option Nat} {σ : St} {K : St → Option R} {r : R} (hd : ops.toList.all noDefer = true)
    (h : runOps cx ops.toList ops.toList σ [] (fun _ τ => K τ) = some r) {C : Ctx} {gh : Gh} {a : Act} {w : World} (hn : C.n = cx.n) (hs : Sim C gh σ a w)
    (hQ : ∀ τ, K τ = some r → ∀ gh' a' w', Sim C gh' τ a' w' → Q .normal a' w') : (Code.region id ops false).wpIn (Fw ro) 0 cx.T Q a w :=
  region_in' hst hd (keep_true _) h hn hs trivial fun τ hK gh' a' w' hs' _ => hQ τ hK gh' a' w' hs'
theorem region_in_d {cx : Cx} (hst : ∀ R : Type, StepSound R cx) {id : Nat} {ops : Array Oper} {Q : Exit → Act → World → Prop} {ro : Option Nat} {σ : St} {K : St → Option R} {r : R} (d : List Deferred) (hd : ops.toList.all simpleOp = true)
    (h : runOps cx ops.toList ops.toList σ [] (fun _ τ => K τ) = some r) {C : Ctx} {gh : Gh} {a : Act} {w : World} (hn : C.n = cx.n) (hs : Sim C gh σ a w)
    (hQ : ∀ τ, K τ = some r → ∀ gh' a' w', Sim C gh' τ a' w' → Q .normal (dfr d a') w') : (Code.region id ops false).wpIn (Fw ro) 0 cx.T Q (dfr d a) w := by
  refine wpIn_region ?_
  obtain ⟨es, τ', h1, h2, h3⟩ := runOps_sound (hst _) _ _ _ _ _ _ h
  have hot : ops.toList.toArray = ops := by simp
  rw [hot] at h1
  have := trace_in_d (Q := Q) (ro := ro) d hn ops.toList 0 σ es (fun j o ho => by simpa using ho) (fun o ho => List.all_eq_true.1 hd o ho) h1 (fun gh' a' w' hs' => hQ _ h3 gh' a' w' (sim_same h2 hs')) gh a w hs
  rw [List.range_eq_range']
  simpa using this

theorem wpOpsIn_cons {F : Fence} {n : Nat} {P : Program} {ops : Array Oper} {Q : Exit → Act → World → Prop} {i : Nat} {rest : List Nat} {a : Act} {w : World} {o : Oper} (ho : ops[i]? = some o) (hg : o.guard = none) (h : o.wpIn F n P a w (wpOpsIn F n P ops Q rest) Q) : wpOpsIn F n P ops Q (i :: rest) a w := by
  simp only [wpOpsIn, ho, Region.wanted, hg, if_true]
  exact h
/-! Changes beside the blocks -/
structure Aside (B : Nat) (W W' : World) : Prop where
  os : W'.os = W.os
  tape : W'.tape = W.tape
  output : W'.output = W.output
  drawn : W.drawn ≤ W'.drawn
  size : W.heap.size ≤ W'.heap.size
  cells : ∀ (k : Nat) vs t z, W.heap[k]? = some (Obj.cells vs t z) → W'.heap[k]? = some (Obj.cells vs t z)
  map : ∀ (k : Nat) e c, W.heap[k]? = some (Obj.map e c) → W'.heap[k]? = some (Obj.map e c)
  low : ∀ (k : Nat), k < B → k < W.heap.size → W'.heap[k]? = W.heap[k]?
theorem Aside.refl (B : Nat) (W : World) : Aside B W W := ⟨rfl, rfl, rfl, Nat.le_refl _, Nat.le_refl _, fun _ _ _ _ h => h, fun _ _ _ h => h, fun _ _ _ => rfl⟩
theorem Aside.alloc (B : Nat) (W : World) (o : Obj) : Aside B W (W.alloc o) := by
  have h : ∀ k, k < W.heap.size → (W.alloc o).heap[k]? = W.heap[k]? := fun k hk => Below.heap_alloc _ _ k hk
  exact ⟨rfl, rfl, rfl, Nat.le_refl _, by simp, fun k vs t z e => (h k (Array.getElem?_eq_some_iff.1 e).1).trans e, fun k _ _ e => (h k (Array.getElem?_eq_some_iff.1 e).1).trans e, fun k _ hk => h k hk⟩
theorem Aside.putObj {B : Nat} {W : World} {l : Nat} {o o' : Obj} (hl : W.heap[l]? = some o) (hB : B ≤ l) (h1 : ∀ vs t z, o ≠ .cells vs t z) (h2 : ∀ e c, o ≠ .map e c) : Aside B W (W.putObj l o') := by
  have h : ∀ k, k ≠ l → (W.putObj l o').heap[k]? = W.heap[k]? := fun k hk => World.putObj_heap_other hk
  refine ⟨rfl, rfl, rfl, Nat.le_refl _, by simp [World.putObj], fun k vs t z e => (h k ?_).trans e, fun k _ _ e => (h k ?_).trans e, fun k hk _ => h k (by omega)⟩
  · rintro rfl; rw [hl] at e; cases e; exact h1 _ _ _ rfl
  · rintro rfl; rw [hl] at e; cases e; exact h2 _ _ rfl
theorem Aside.trans {B : Nat} {W W' W'' : World} (h : Aside B W W') (h' : Aside B W' W'') : Aside B W W'' :=
  ⟨h'.os.trans h.os, h'.tape.trans h.tape, h'.output.trans h.output, Nat.le_trans h.drawn h'.drawn, Nat.le_trans h.size h'.size, fun k vs t z e => h'.cells k vs t z (h.cells k vs t z e), fun k a c e => h'.map k a c (h.map k a c e),
   fun k hk hk' => (h'.low k hk (Nat.lt_of_lt_of_le hk' h.size)).trans (h.low k hk hk')⟩
theorem blk_obj {g : Gh} {m : Mem} {W : World} (H : HeapOK g m W) {id : Nat} {b : Blk} (hb : m id = some b) (hl : b.live = true) {k : Nat} (hk : g.blk id = some k) :
    (∃ vs t z, W.heap[k]? = some (.cells vs t z)) ∨ ∃ e c, W.heap[k]? = some (.map e c) := by
  have h := H.blk id b hb
  cases b with
  | dead => cases hl
  | box l =>
    obtain ⟨g', tid, vals, h1, h2, _⟩ := h
    have : k = g' := by rw [Gh.blk, h1] at hk; injection hk with hk; exact hk.symm
    subst this
    exact .inl ⟨_, _, _, h2⟩
  | lst e r xs fz =>
    obtain ⟨vs, h1, _⟩ := h
    rcases h1.2 with ⟨h2, _⟩ | ⟨gb, cap, cur, h2, _, h3, _⟩
    · rw [Gh.blk, h2] at hk; cases hk
    · have : k = gb := by rw [Gh.blk, h2] at hk; injection hk with hk; exact hk.symm
      subst this
      exact .inl ⟨_, _, _, h3⟩
  | mp kr es =>
    obtain ⟨_, g', ents, clock, h1, h2, _⟩ := h
    have : k = g' := by rw [Gh.blk, h1] at hk; injection hk with hk; exact hk.symm
    subst this
    exact .inr ⟨_, _, h2⟩
theorem cell_cells {W : World} {x : Addr} {v : Value} (hs : x.spot = none) (h : W.cell? x = some v) : ∃ vs t z, W.heap[x.block]? = some (.cells vs t z) := by
  obtain ⟨b, o, s⟩ := x
  simp only at hs
  subst hs
  unfold World.cell? at h
  simp only at h ⊢
  split at h
  · rename_i cs t z heq; exact ⟨_, _, _, heq⟩
  · cases h
theorem aside {B : Nat} {g1 : Gh} {m1 : Mem} {W1 : World} {g : Gh} {m : Mem} {W W' : World} (H : HeapOK g m W) (T : Tr g1 m1 W1 g m W) (hB : W1.heap.size ≤ B) (h : Aside B W W') : HeapOK g m W' ∧ Tr g1 m1 W1 g m W' := by
  have hk : ∀ (k : Nat), ((∃ vs t z, W.heap[k]? = some (Obj.cells vs t z)) ∨ ∃ e c, W.heap[k]? = some (Obj.map e c)) → W'.heap[k]? = W.heap[k]? := by
    rintro k (⟨vs, t, z, e⟩ | ⟨e, c, e'⟩)
    · rw [h.cells _ _ _ _ e, e]
    · rw [h.map _ _ _ e', e']
  have hc : ∀ x, g.S x → W'.cell? x = W.cell? x := fun x hx => by
    obtain ⟨hs, v, hv⟩ := H.st x hx
    exact World.cell?_of_block (hk _ (.inl (cell_cells hs hv)))
  refine ⟨⟨fun id b hb => blkOK_same (gh := g) (gh' := g) (m := m) (m' := m) (fun _ h => h) hc (fun id hid => ⟨hid, rfl⟩) (by rw [hb]; simp) (fun hl k hgk => hk k (blk_obj H hb hl hgk)) (H.blk id b hb), H.inj, H.sep, fun x hx => ?_⟩, ?_⟩
  · obtain ⟨hs, v, hv⟩ := H.st x hx
    exact ⟨hs, v, by rw [hc x hx]; exact hv⟩
  · exact ⟨h.os.trans T.os, h.tape.trans T.tape, h.output.trans T.output, Nat.le_trans T.size h.size, fun k hk' hn => by
      rw [h.low k (Nat.lt_of_lt_of_le hk' hB) (Nat.lt_of_lt_of_le hk' T.size)]; exact T.same k hk' hn, T.S, fun x hx => by
      rw [hc x (T.S x hx)]; exact T.scell x hx, T.newS, T.ids, T.pin, Nat.le_trans T.drawn h.drawn⟩
theorem aside_cell {B : Nat} {g : Gh} {m : Mem} {W W' : World} (H : HeapOK g m W) (h : Aside B W W') : ∀ x, g.S x → W'.cell? x = W.cell? x := fun x hx => by
  obtain ⟨hs, v, hv⟩ := H.st x hx
  obtain ⟨vs, t, z, e⟩ := cell_cells hs hv
  exact World.cell?_of_block (by rw [h.cells _ _ _ _ e, e])
def flatC : AC → Bool
  | .c .str _ => true
  | .c (.int _) _ => true
  | .c .bool _ => true
  | _ => false
theorem repCs_flat {gh gh' : Gh} {m m' : Mem} {w w' : World} {l : List AC} {vs : List Value} (hl : l.all flatC = true) (h : RepCs gh m w l vs) : RepCs gh' m' w' l vs := by
  refine all2_of_mem (fun a ha v hv => ?_) h
  have := List.all_eq_true.1 hl a ha
  unfold flatC at this
  split at this
  · exact hv
  · exact hv
  · exact hv
  · cases this
/-- What is no block stands as it was. -/
theorem other_same {g0 : Gh} {m0 : Mem} {W0 : World} {g : Gh} {m : Mem} {W : World} (H : HeapOK g0 m0 W0) (T : Tr g0 m0 W0 g m W) {l : Nat} {o : Obj} (hl : W0.heap[l]? = some o) (h1 : ∀ vs t z, o ≠ .cells vs t z) (h2 : ∀ e c, o ≠ .map e c) : W.heap[l]? = some o := by
  rw [T.same l (Array.getElem?_eq_some_iff.1 hl).1 fun id b hb hlv hk => ?_, hl]
  rcases blk_obj H hb hlv hk with ⟨vs, t, z, e⟩ | ⟨e, c, e'⟩
  · rw [hl] at e; cases e; exact h1 _ _ _ rfl
  · rw [hl] at e'; cases e'; exact h2 _ _ rfl
theorem tr_aside {g0 : Gh} {W0 : World} {g : Gh} {m : Mem} {W : World} (B : Nat) (T : Tr g0 (fun _ => none) W0 g m W) : Aside B W0 W := by
  have h : ∀ k, k < W0.heap.size → W.heap[k]? = W0.heap[k]? := fun k hk => T.same k hk fun id b hb => by cases hb
  exact ⟨T.os, T.tape, T.output, T.drawn, T.size, fun k vs t z e => (h k (Array.getElem?_eq_some_iff.1 e).1).trans e, fun k _ _ e => (h k (Array.getElem?_eq_some_iff.1 e).1).trans e, fun k _ hk => h k hk⟩
theorem tr_join {g0 : Gh} {m0 : Mem} {w0 : World} {g : Gh} {m : Mem} {w : World} {g1 : Gh} {m1 : Mem} {g2 : Gh} {m2 : Mem} {w2 : World} (h : Tr g0 m0 w0 g m w) (hS : g1.S = g.S)
    (hids : ∀ id b, m1 id = some b → b.live = true → ∀ k, g1.blk id = some k → w0.heap.size ≤ k ∨ ∃ j c, m0 j = some c ∧ c.live = true ∧ g0.blk j = some k)
    (k : Tr g1 m1 w g2 m2 w2) (hpin : ∀ id, pin id = true → m2 id ≠ none → m0 id ≠ none ∧ g2.val id = g0.val id) : Tr g0 m0 w0 g2 m2 w2 where
  os := k.os.trans h.os
  tape := k.tape.trans h.tape
  output := k.output.trans h.output
  size := Nat.le_trans h.size k.size
  same := fun i hi hn => by
    rw [k.same i (Nat.lt_of_lt_of_le hi h.size) (fun id b h1 h2 h3 => ?_), h.same i hi hn]
    rcases hids id b h1 h2 i h3 with h4 | ⟨j, c, h4, h5, h6⟩
    · omega
    · exact hn j c h4 h5 h6
  S := fun x hx => k.S _ (by rw [hS]; exact h.S _ hx)
  scell := fun x hx => (k.scell _ (by rw [hS]; exact h.S _ hx)).trans (h.scell _ hx)
  newS := fun x hx => by
    rcases k.newS x hx with h1 | h1 | ⟨id, b, h1, h2, h3⟩
    · rw [hS] at h1; exact h.newS x h1
    · exact .inr (.inl (Nat.le_trans h.size h1))
    · rcases hids id b h1 h2 _ h3 with h4 | h4
      · exact .inr (.inl h4)
      · exact .inr (.inr h4)
  ids := fun id b h1 h2 i h3 => by
    rcases k.ids id b h1 h2 i h3 with h4 | ⟨j, c, h4, h5, h6⟩
    · exact .inl (Nat.le_trans h.size h4)
    · exact hids j c h4 h5 i h6
  pin := hpin
  drawn := Nat.le_trans h.drawn k.drawn
theorem run_callyield {P : Program} {o : Oper} {c : Call} {l : Nat} {x : Operand} (ho : o.op = .call c) (hc : c.callee = .value x) (a : Act) (he : a.eval x = .func (.yield l) #[] #[]) (w : World) :
    (execOp a.eval o).run P w = (Instr.yield l (c.args.map a.eval)).run P w := by
  simp only [execOp, ho, Sem.run_bind, resolve, hc, he, Deferred.ofValue, Sem.run_pure, Result.andThen_ok, invoke]
  simp
def opsOf : Code → Array Oper
  | .region _ ops _ => ops
  | _ => #[]
def rangeOf : Code → Code × Code
  | .rangeFunc _ _ a b => (a, b)
  | .block _ c => rangeOf c
  | .seq a b => rangeOf b
  | _ => (.skip, .skip)
end Go.Vx
namespace Go.Vx.Z
open Go Go.Vx Go.Proofs Go.RowKit
set_option linter.unusedVariables false
set_option linter.unusedSimpArgs false
set_option maxRecDepth 1000000
set_option maxHeartbeats 4000000
noncomputable def b110 : Code := Tryz.f110.body.getD .skip
noncomputable def b84 : Code := Tryz.f84.body.getD .skip
noncomputable def cx110 : Cx := ⟨Tryz.prog, [], [11], 13, [], []⟩
noncomputable def cx84 : Cx := ⟨Tryz.prog, [], [], 16, [], []⟩
noncomputable def as110 : Code := (rangeOf (sub [1, 0] b110)).1
noncomputable def bo110 : Code := (rangeOf (sub [1, 0] b110)).2
theorem b110_eq : b110 = .seq (.region 0 (opsOf (sub [0] b110)) false) (.seq (.seq (.region 1 (opsOf (sub [1, 0, 0] b110)) false) (.block 0 (.rangeFunc (.tmp 6) #[7] (.region 2 (opsOf as110) false) (.block 1 (.region 3 (opsOf (sub [0] bo110)) false)))))
  (.seq (.region 4 (opsOf (sub [1, 1, 0] b110)) false) .ret)) := by kernel_rfl
theorem b84_eq : b84 = .seq (.region 0 (opsOf (sub [0] b84)) false) (.block 0 (.loop (.seq (.region 1 (opsOf (sub [1, 0, 0, 0] b84)) false) (.seq (.cond (.tmp 8) .skip (.exit 0)) (.seq
  (.block 1 (.seq (.region 2 (opsOf (sub [1, 0, 0, 1, 1, 0, 0, 0] b84)) false) (.seq (.region 3 (opsOf (sub [1, 0, 0, 1, 1, 0, 0, 1, 0] b84)) false) (.cond (.tmp 14) .ret .skip)))) (.region 4 (opsOf (sub [1, 0, 0, 1, 1, 1] b84)) false)))))) := by kernel_rfl
@[reducible] def shA : Shape := ⟨[(2, .one (.ptr 100001 0)), (7, .row (rowShape r0))], [(100001, .box [.own 200001]), (200001, .lst 43 r0 false), (100000, .box [.d (.list r0)])]⟩
@[reducible] def shB : Shape := ⟨[(2, .one (.ptr 100001 0)), (5, .one (.ptr 200005 0))], [(100001, .box [.own 200001]), (200001, .lst 43 r0 false), (100000, .box [.d (.list r0)]), (200005, .box (rowShape r0))]⟩
@[reducible] def shC : Shape := ⟨[], [(100001, .box [.own 200001]), (200001, .lst 43 r0 false), (100000, .box [.d (.list r0)])]⟩
@[reducible] def shD : Shape := ⟨[(2, .one (.ptr 100001 0))], [(100001, .box [.own 200001]), (200001, .lst 43 r0 false), (100000, .box [.d (.list r0)])]⟩
@[reducible] def shE : Shape := ⟨[(4, .one (.own 200000))], [(100000, .box [.d (.list r0)]), (200000, .lst 43 r0 false)]⟩
@[reducible] def sh110 : Shape := ⟨[(0, .one .nilS), (1, .one (.clo 84 [some (100000, 0)]))], [(100000, .box [.d (.list r0)])]⟩
@[reducible] def out110 : Shape := ⟨[(0, .one (.own 200000))], [(100000, .box [.d (.list r0)]), (200000, .lst 43 r0 false)]⟩
@[reducible] def shH : Shape := ⟨[(2, .one (.ptr 200002 0)), (6, .one (.clo 84 [some (100000, 0)]))], [(200002, .box [.nilS]), (100000, .box [.d (.list r0)])]⟩
theorem st110 (R : Type) : StepSound R cx110 := step_sound (all_fe (P := Tryz.prog) (l := []) trivial) R
theorem st84 (R : Type) : StepSound R cx84 := step_sound (all_fe (P := Tryz.prog) (l := []) trivial) R
theorem runA (pre xs : List r0.D) (x : r0.D) : runOps cx110 (opsOf as110).toList (opsOf as110).toList (embed shA (x.1, x.2.1, x.2.2.1, x.2.2.2.1, x.2.2.2.2.1, pre, xs, ())) [] (fun _ τ => extract shB τ) = some (pre, xs, x.1, x.2.1, x.2.2.1, x.2.2.2.1, x.2.2.2.2.1, ()) := by kernel_rfl
theorem runB (pre xs : List r0.D) (x : r0.D) : runOps cx110 (opsOf (sub [0] bo110)).toList (opsOf (sub [0] bo110)).toList (embed shB (pre, xs, x.1, x.2.1, x.2.2.1, x.2.2.2.1, x.2.2.2.2.1, ())) [] (fun _ τ => extract shC τ) =
  bif decide (List.length pre + List.length [(x.1, x.2.1, x.2.2.1, x.2.2.2.1, x.2.2.2.2.1, ())] ≤ 2513169434916) then some (pre ++ [(x.1, x.2.1, x.2.2.1, x.2.2.2.1, x.2.2.2.2.1, ())], xs, ()) else none := by kernel_rfl
theorem runH (xs : List r0.D) : (runOps cx110 (opsOf (sub [0] b110)).toList (opsOf (sub [0] b110)).toList (embed sh110 (xs, ())) [] fun _ τ => runOps cx110 (opsOf (sub [1, 0, 0] b110)).toList (opsOf (sub [1, 0, 0] b110)).toList τ [] (fun _ τ => extract shH τ)) = some (xs, ()) := by kernel_rfl
theorem runE (pre xs : List r0.D) : runOps cx110 (opsOf (sub [1, 1, 0] b110)).toList (opsOf (sub [1, 1, 0] b110)).toList (embed shD (pre, xs, ())) [] (fun _ τ => extract shE τ) = some (xs, pre, ()) := by kernel_rfl
/-- Between two rounds. -/
def memC (pre xs : List r0.D) : Mem := (embed shC (pre, xs, ())).blk
structure JJ (g1 : Gh) (W1 : World) (l D : Nat) (rec : Loop) (xs pre : List r0.D) (W : World) : Prop where
  h : ∃ gh, HeapOK gh (memC pre xs) W ∧ Tr g1 (memC [] xs) W1 gh (memC pre xs) W
  L : W.heap[l]? = some (.loop rec)
  D : W.heap[D]? = some (.deferred (some []))
structure RecOK (g1 : Gh) (rec : Loop) : Prop where
  state : rec.state = .ready
  pending : rec.pending = none
  params : rec.params = #[7]
  asg : rec.assign = .region 2 (opsOf as110) false
  body : rec.body = .block 1 (.region 3 (opsOf (sub [0] bo110)) false)
  size : rec.tmps.size = 13
  ptr : ∃ b, g1.val 100001 = .pointer (some ⟨b, 0, none⟩) ∧ rec.tmps.getD 2 undef = .pointer (some ⟨b, 0, none⟩)
theorem lookup_ne {pre xs : List r0.D} : memC pre xs 100001 ≠ none := by simp [memC, St.blk, embed, emMem, emEnv, lookM]
theorem yield_ok {g1 : Gh} {W1 : World} {l D : Nat} {rec : Loop} {xs pre : List r0.D} {W : World} (hr : RecOK g1 rec) (hl : W1.heap.size ≤ l) (hD : W1.heap.size ≤ D) (hlD : D ≠ l) (hJ : JJ g1 W1 l D rec xs pre W) (hlim : pre.length + 1 ≤ 2513169434916)
    (x : r0.D) (vs : Array Value) (hx : RepCs g1 (fun _ => none) W (cellsOf r0 x) vs.toList) :
    YieldAt Fence.wide 0 Tryz.prog l #[.agg vs] W fun e W' => e = .returned (.bool true) ∧ JJ g1 W1 l D rec xs (pre ++ [x]) W' := by
  obtain ⟨⟨gh, H, T⟩, hL, hDD⟩ := hJ
  have hy := run_yield (P := Tryz.prog) (args := #[Value.agg vs]) hL (by rw [hr.params]; rfl)
  rw [hr.params] at hy
  have hzip : (((#[7] : Array Tmp).zip #[Value.agg vs]).foldl (fun tmps (x : Tmp × Value) => tmps.setIfInBounds x.1 x.2) rec.tmps) = rec.tmps.setIfInBounds 7 (.agg vs) := by simp
  refine ⟨rec.fn, rec.tmps.setIfInBounds 7 (.agg vs), rec.assign, rec.body, by rw [← hzip]; exact hy, ?_⟩
  refine roundIn_of_wpIn trivial ?_
  rw [hr.asg]
  show (Code.region 2 (opsOf as110) false).wpIn (Fw (some l)) 0 cx110.T _ _ W
  obtain ⟨b, hb1, hb2⟩ := hr.ptr
  have hb : gh.val 100001 = .pointer (some ⟨b, 0, none⟩) := by rw [(T.pin 100001 rfl lookup_ne).2]; exact hb1
  let C : Ctx := ⟨gh, memC pre xs, W, 13⟩
  refine region_in (C := C) (gh := gh) st110 (by kernel_rfl) (runA pre xs x) rfl ⟨rfl, ?_, ?_, H, Tr.refl _ _ _⟩ ?_
  · show (rec.tmps.setIfInBounds 7 (.agg vs)).size = 13
    rw [Array.size_setIfInBounds]
    exact hr.size
  · intro s
    have he : (embed shA (x.1, x.2.1, x.2.2.1, x.2.2.2.1, x.2.2.2.2.1, pre, xs, ())).env = [(2, .v (.one (.ptr 100001 0))), (7, .v (.row (cellsOf r0 x)))] := rfl
    show RepV gh (memC pre xs) W (lookE s (embed shA (x.1, x.2.1, x.2.2.1, x.2.2.2.1, x.2.2.2.2.1, pre, xs, ())).env) ((rec.tmps.setIfInBounds 7 (.agg vs)).getD s undef)
    rw [he]
    have hsz := hr.size
    match s with
    | 2 =>
      refine ⟨lookup_ne, b, hb, ?_⟩
      rw [← hb2]
      simp [Array.getD_eq_getD_getElem?]
    | 7 =>
      refine ⟨vs, ?_, repCs_mono T.S (fun _ _ => rfl) (fun id hid => absurd rfl hid) hx⟩
      simp [Array.getD_eq_getD_getElem?, hsz]
    | 0 | 1 | 3 | 4 | 5 | 6 => trivial
    | n + 8 => trivial
  intro τ hτ gh1 a1 w1 hs1
  obtain ⟨gh2, hs2⟩ := sim_extract hτ hs1
  have hlt : l < W.heap.size := (Array.getElem?_eq_some_iff.1 hL).1
  have H2 : HeapOK gh2 (embed shB (pre, xs, x.1, x.2.1, x.2.2.1, x.2.2.2.1, x.2.2.2.2.1, ())).blk w1 := hs2.heap
  have T2 : Tr gh (memC pre xs) W gh2 (embed shB (pre, xs, x.1, x.2.1, x.2.2.1, x.2.2.2.1, x.2.2.2.2.1, ())).blk w1 := hs2.tr
  have hL1 := other_same H T2 hL (by simp) (by simp)
  have hD1 := other_same H T2 hDD (by simp) (by simp)
  have hA := Aside.putObj (o' := .loop { rec with state := .busy }) hL1 hl (by simp) (by simp)
  have hg2 := aside H2 (T.trans T2) (Nat.le_refl _) hA
  have hc2 := aside_cell H2 hA
  have hL2 : (w1.putObj l (.loop { rec with state := .busy })).heap[l]? = some (.loop { rec with state := .busy }) := World.putObj_heap_same (Array.getElem?_eq_some_iff.1 hL1).1
  have hD2 : (w1.putObj l (.loop { rec with state := .busy })).heap[D]? = some (.deferred (some [])) := (World.putObj_heap_other hlD).trans hD1
  have hbr := run_beginRound (P := Tryz.prog) hL1 hr.state
  generalize w1.putObj l (.loop { rec with state := .busy }) = w2 at hg2 hL2 hD2 hc2 hbr
  obtain ⟨H3, T3⟩ := hg2
  refine ⟨w2, hbr, ?_⟩
  rw [hr.body]
  refine wpIn_block ?_
  show (Code.region 3 (opsOf (sub [0] bo110)) false).wpIn (Fw (some l)) 0 cx110.T _ _ _
  have hB : runOps cx110 (opsOf (sub [0] bo110)).toList (opsOf (sub [0] bo110)).toList (embed shB (pre, xs, x.1, x.2.1, x.2.2.1, x.2.2.2.1, x.2.2.2.2.1, ())) [] (fun _ τ => extract shC τ) = some (pre ++ [x], xs, ()) := by
    rw [runB]
    have : decide (List.length pre + List.length [(x.1, x.2.1, x.2.2.1, x.2.2.2.1, x.2.2.2.2.1, ())] ≤ 2513169434916) = true := decide_eq_true hlim
    rw [this]
    rfl
  refine region_in (C := ⟨gh2, (embed shB (pre, xs, x.1, x.2.1, x.2.2.1, x.2.2.2.1, x.2.2.2.2.1, ())).blk, w2, 13⟩) (gh := gh2) st110 (by kernel_rfl) hB rfl ⟨hs2.defers, hs2.size, fun s => repV_mono (g := gh2) (w := w1) (fun _ h => h) hc2 (fun id hid => ⟨hid, rfl⟩) (hs2.env s), H3, Tr.refl _ _ _⟩ ?_
  intro τ3 hτ3 gh3 a3 w3 hs3
  obtain ⟨gh4, hs4⟩ := sim_extract hτ3 hs3
  have H4 : HeapOK gh4 (memC (pre ++ [x]) xs) w3 := hs4.heap
  have T4 : Tr gh2 _ w2 gh4 (memC (pre ++ [x]) xs) w3 := hs4.tr
  have hL3 := other_same H3 T4 hL2 (by simp) (by simp)
  have hD3 := other_same H3 T4 hD2 (by simp) (by simp)
  refine ⟨_, _, run_endRound none hL3, rfl, ?_⟩
  have hrec : ({ { rec with state := .busy } with state := if (none : Option Code).isNone then .ready else .done, pending := none } : Loop) = rec := by
    have h1 := hr.state; have h2 := hr.pending
    cases rec; simp_all
  rw [hrec]
  have hg5 := aside H4 (T3.trans T4) (Nat.le_refl _) (Aside.putObj (o' := .loop rec) hL3 hl (by simp) (by simp))
  exact ⟨⟨gh4, hg5⟩, World.putObj_heap_same (Array.getElem?_eq_some_iff.1 hL3).1, (World.putObj_heap_other hlD).trans hD3⟩
theorem ops84_0 : opsOf (sub [0] b84) = [{ dst := some 5, op := Go.Op.load 29 (Go.Operand.tmp 1), type := 29, pos := "iter.go:39", after := #[], guard := none },
              { dst := some 6, op := Go.Op.call { callee := Go.Callee.builtin Go.Builtin.len, args := #[Go.Operand.tmp 5], argTypes := #[29] }, type := 3, pos := "iter.go:39",
                after := #[{ on := 0, ground := Go.Ground.data }], guard := none },
              { dst := some 7, op := Go.Op.move (Go.Operand.const (Go.Value.int Go.IntKind.i64 0)), type := 3, pos := "iter.go:39", after := #[], guard := none }].toArray := by kernel_rfl
theorem reg84_0 {l Bx : Nat} {p : Option Addr} {n cap : Nat} {W : World} {Q : Exit → Act → World → Prop} (hc : W.cell? ⟨Bx, 0, none⟩ = some (.slice p n cap))
    (h : Q .normal ⟨#[.func (.yield l) #[] #[], .pointer (some ⟨Bx, 0, none⟩), undef, undef, undef, .slice p n cap, .int .i64 n, .int .i64 0, undef, undef, undef, undef, undef, undef, undef, undef], []⟩ W) :
    (Code.region 0 (opsOf (sub [0] b84)) false).wpIn Fence.wide 0 Tryz.prog Q ⟨#[.func (.yield l) #[] #[], .pointer (some ⟨Bx, 0, none⟩), undef, undef, undef, undef, undef, undef, undef, undef, undef, undef, undef, undef, undef, undef], []⟩ W := by
  rw [ops84_0]
  have t29 := Tryz.underlying29; have a29 := Tryz.isAgg29; have z29 := Tryz.sizeOf29; have v29 := Tryz.zeroValue29
  have t3 := Tryz.underlying3; have a3 := Tryz.isAgg3; have z3 := Tryz.sizeOf3; have v3 := Tryz.zeroValue3
  have u29 := run_underlying t29; have u3 := run_underlying t3
  gi_wp2
  exact h
noncomputable def sv84 (u : Value) (xs : List r0.D) (n i : Int) : St := ⟨[(0, .v (.one (.raw u))), (5, .v (.one (.c (.list r0) xs))), (6, .v (.one (.c (.int .i64) n))), (7, .v (.one (.c (.int .i64) i)))], []⟩
noncomputable def sw84 : St := ⟨[(13, .v (.one (.c .bool true)))], []⟩
noncomputable def q84 : List Oper := (opsOf (sub [1, 0, 0, 1, 1, 0, 0, 1, 0] b84)).toList
theorem run84_1 (u : Value) (xs : List r0.D) (n i : Int) : runOps cx84 (opsOf (sub [1, 0, 0, 0] b84)).toList (opsOf (sub [1, 0, 0, 0] b84)).toList (sv84 u xs n i) [] (fun _ τ => some (τ.get 8)) = some (.v (.one (.c .bool (decide (i < n))))) := by kernel_rfl
theorem run84_2 (u : Value) (xs : List r0.D) (n i : Int) : runOps cx84 (opsOf (sub [1, 0, 0, 1, 1, 0, 0, 0] b84)).toList (opsOf (sub [1, 0, 0, 1, 1, 0, 0, 0] b84)).toList (sv84 u xs n i) [] (fun _ τ => runOps cx84 q84 (q84.take 2) τ [] fun _ τ => some (τ.get 11, τ.get 12)) =
  bif decide (Int.ofNat 0 ≤ i) then Option.bind xs[Int.toNat i]? fun (y : r0.D) => some (.v (.one (.raw u)), .v (.row (cellsOf r0 y))) else none := by kernel_rfl
theorem run84_3 : runOps cx84 q84 (q84.drop 3) sw84 [] (fun _ τ => some (τ.get 14)) = some (.v (.one (.c .bool false))) := by kernel_rfl
theorem run84_4 (u : Value) (xs : List r0.D) (n i : Int) : runOps cx84 (opsOf (sub [1, 0, 0, 1, 1, 1] b84)).toList (opsOf (sub [1, 0, 0, 1, 1, 1] b84)).toList (sv84 u xs n i) [] (fun _ τ => some (τ.get 7)) = some (.v (.one (.c (.int .i64) (IntKind.wrap IntKind.i64 (i + Int.ofNat 1))))) := by kernel_rfl
section
variable {g1 : Gh} {W1 : World} {l D : Nat} {rec : Loop} {xs pre : List r0.D}
theorem JJ.grow {W W' : World} {g g' : Gh} {m' : Mem} (h : JJ g1 W1 l D rec xs pre W) (T : Tr g (fun _ => none) W g' m' W') : JJ g1 W1 l D rec xs pre W' := by
  obtain ⟨⟨gh, H, T0⟩, hL, hD⟩ := h
  have hk : ∀ k, k < W.heap.size → W'.heap[k]? = W.heap[k]? := fun k hk => T.same k hk fun id b hb => by cases hb
  exact ⟨⟨gh, aside H T0 (Nat.le_refl _) (tr_aside _ T)⟩, (hk l (Array.getElem?_eq_some_iff.1 hL).1).trans hL, (hk D (Array.getElem?_eq_some_iff.1 hD).1).trans hD⟩
theorem JJ.cell {W : World} (h : JJ g1 W1 l D rec xs pre W) : ∀ x, g1.S x → W.cell? x = W1.cell? x := fun x hx => by
  obtain ⟨⟨gh, H, T0⟩, _⟩ := h
  exact T0.scell x hx
theorem JJ.none {W : World} (h : JJ g1 W1 l D rec xs pre W) : HeapOK g1 (fun _ => none) W := by
  obtain ⟨⟨gh, H, T0⟩, _⟩ := h
  exact ⟨fun id b h => (by cases h), fun i j b c h => (by cases h), fun x hx id b h => (by cases h), fun x hx => H.st x (T0.S x hx)⟩
structure In84 (g1 : Gh) (W1 : World) (l D : Nat) (rec : Loop) (xs : List r0.D) (v : Value) (i : Nat) (a : Act) (W : World) : Prop where
  defers : a.defers = []
  size : a.tmps.size = 16
  t0 : a.tmps.getD 0 undef = .func (.yield l) #[] #[]
  t5 : a.tmps.getD 5 undef = v
  t6 : a.tmps.getD 6 undef = .int .i64 xs.length
  t7 : a.tmps.getD 7 undef = .int .i64 i
  jj : JJ g1 W1 l D rec xs (xs.take i) W
theorem In84.sim {v : Value} {i : Nat} {a : Act} {W : World} (hv : RepD g1.S W1 (.list r0) xs v) (h : In84 g1 W1 l D rec xs v i a W) : Sim ⟨g1, fun _ => none, W, 16⟩ g1 (sv84 (.func (.yield l) #[] #[]) xs xs.length i) a W := by
  refine ⟨h.defers, h.size, fun s => ?_, h.jj.none, Tr.refl _ _ _⟩
  show RepV g1 (fun _ => none) W (lookE s (sv84 (.func (.yield l) #[] #[]) xs xs.length i).env) _
  match s with
  | 0 => exact ⟨h.t0, rfl, rfl⟩
  | 5 =>
    show RepD g1.S W (.list r0) xs _
    rw [h.t5]
    exact repD_mono (fun _ h => h) h.jj.cell hv
  | 6 => exact h.t6
  | 7 => exact h.t7
  | 1 | 2 | 3 | 4 => trivial
  | n + 8 => trivial
abbrev Fix (l : Nat) (v n i : Value) (t : Array Value) : Prop := t.getD 0 undef = .func (.yield l) #[] #[] ∧ t.getD 5 undef = v ∧ t.getD 6 undef = n ∧ t.getD 7 undef = i
theorem fix_keep {v n i : Value} {os : List Oper} (h0 : os.all (fun o => match o.dst with | some d => !Nat.beq d 0 | none => true) = true) (h5 : os.all (fun o => match o.dst with | some d => !Nat.beq d 5 | none => true) = true)
    (h6 : os.all (fun o => match o.dst with | some d => !Nat.beq d 6 | none => true) = true) (h7 : os.all (fun o => match o.dst with | some d => !Nat.beq d 7 | none => true) = true) : Keep (Fix l v n i) os :=
  keep_and (keep_slot h0) (keep_and (keep_slot h5) (keep_and (keep_slot h6) (keep_slot h7)))
theorem values_ok {W0 : World} {Bx : Nat} {v : Value} (hr : RecOK g1 rec) (hl : W1.heap.size ≤ l) (hD : W1.heap.size ≤ D) (hlD : D ≠ l) (hJ : JJ g1 W1 l D rec xs [] W0) (hv : RepD g1.S W1 (.list r0) xs v) (hc : W0.cell? ⟨Bx, 0, none⟩ = some v) (hlim : xs.length ≤ 2513169434916) :
    CallsIn Fence.wide 0 Tryz.prog 84 #[.func (.yield l) #[] #[], .pointer (some ⟨Bx, 0, none⟩)] W0 fun e W' => (∃ u, e = .returned u) ∧ JJ g1 W1 l D rec xs xs W' := by
  have hb : Tryz.f84.body = some b84 := by kernel_rfl
  have hf : Tryz.prog.funcs[84]? = some Tryz.f84 := by kernel_rfl
  refine callsIn_of_wp hf hb trivial ?_
  have ht : (#[Value.func (.yield l) #[] #[], Value.pointer (some ⟨Bx, 0, none⟩)] ++ Array.replicate (Tryz.f84.ntmps - (#[Value.func (.yield l) #[] #[], Value.pointer (some ⟨Bx, 0, none⟩)] : Array Value).size) undef) =
    #[.func (.yield l) #[] #[], .pointer (some ⟨Bx, 0, none⟩), undef, undef, undef, undef, undef, undef, undef, undef, undef, undef, undef, undef, undef, undef] := rfl
  rw [ht, b84_eq]
  obtain ⟨p, cap, hvs, _⟩ := repD_list.1 hv
  refine wpIn_seq (reg84_0 (by rw [hc, hvs]) ?_)
  rw [← hvs]
  show Code.wpIn _ _ _ _ _ _ _
  refine wpIn_block (wpIn_loop (fun a W => ∃ i, i ≤ xs.length ∧ In84 g1 W1 l D rec xs v i a W) (fun a _ => match a.tmps.getD 7 undef with | .int _ z => xs.length - z.toNat | _ => 0) ⟨0, Nat.zero_le _, ⟨rfl, rfl, rfl, rfl, rfl, rfl, by simpa using hJ⟩⟩ ?_)
  rintro a W ⟨i, hi, hin⟩
  have hS := hin.sim hv
  have hfix : Fix l v (.int .i64 xs.length) (.int .i64 i) a.tmps := ⟨hin.t0, hin.t5, hin.t6, hin.t7⟩
  refine wpIn_seq ?_
  refine region_in' (ro := none) (cx := cx84) st84 (by kernel_rfl) (fix_keep (l := l) (v := v) (n := .int .i64 xs.length) (i := .int .i64 i) (by kernel_rfl) (by kernel_rfl) (by kernel_rfl) (by kernel_rfl)) (run84_1 _ xs xs.length i) rfl hS hfix ?_
  intro τ hτ gh1 a1 w1 hs1 ⟨k0, k5, k6, k7⟩
  injection hτ with hτ
  have h8 : a1.tmps.getD 8 undef = .bool (decide ((i : Int) < xs.length)) := by
    have := hs1.env 8
    rw [hτ] at this
    exact this
  have hin1 : In84 g1 W1 l D rec xs v i a1 w1 := ⟨hs1.defers, hs1.size, k0, k5, k6, k7, hin.jj.grow hs1.tr⟩
  refine wpIn_seq (wpIn_cond_split (t := decide ((i : Int) < xs.length)) h8 (fun hlt => wpIn_skip ?_) (fun hge => wpIn_exit ?_))
  · -- an element
    have hlt : i < xs.length := by simpa using hlt
    refine wpIn_seq (wpIn_block (wpIn_seq ?_))
    have hy : xs[i]? = some xs[i] := List.getElem?_eq_getElem hlt
    have hrun := run84_2 (.func (.yield l) #[] #[]) xs xs.length i
    rw [show decide (Int.ofNat 0 ≤ (i : Int)) = true by simp, cond_true, show Int.toNat (i : Int) = i from rfl, hy, Option.bind_some] at hrun
    refine region_in' (ro := none) (cx := cx84) st84 (by kernel_rfl) (fix_keep (l := l) (v := v) (n := .int .i64 xs.length) (i := .int .i64 i) (by kernel_rfl) (by kernel_rfl) (by kernel_rfl) (by kernel_rfl)) hrun rfl (hin1.sim hv) ⟨k0, k5, k6, k7⟩ ?_
    intro τ2 hτ2 gh2 a2 w2 hs2 hf2
    show Code.wpIn _ _ _ _ _ _ _
    refine wpIn_seq (wpIn_region ?_)
    rw [show List.range (opsOf (sub [1, 0, 0, 1, 1, 0, 0, 1, 0] b84)).size = List.range' 0 (q84.take 2).length ++ [2, 3] by kernel_rfl]
    refine ops_in (ro := none) (cx := cx84) st84 (ops := opsOf (sub [1, 0, 0, 1, 1, 0, 0, 1, 0] b84)) (os := q84.take 2) (all := q84) rfl (by kernel_rfl) (fix_keep (l := l) (v := v) (n := .int .i64 xs.length) (i := .int .i64 i) (by kernel_rfl) (by kernel_rfl) (by kernel_rfl) (by kernel_rfl)) ?_ hτ2 [2, 3] rfl hs2 hf2 ?_
    · intro j o h
      rw [List.getElem?_take] at h
      split at h
      · rw [Nat.zero_add, ← Array.getElem?_toList]; exact h
      · cases h
    intro τ3 hτ3 gh3 a3 w3 hs3 ⟨j0, j5, j6, j7⟩
    injection hτ3 with hτ3
    have e11 : a3.eval (.tmp 11) = .func (.yield l) #[] #[] := by
      have := hs3.env 11
      rw [(Prod.mk.inj hτ3).1] at this
      exact this.1
    obtain ⟨vs, e12, hrow⟩ : ∃ vs, a3.eval (.tmp 12) = .agg vs ∧ RepCs gh3 τ3.blk w3 (cellsOf r0 xs[i]) vs.toList := by
      have := hs3.env 12
      rw [(Prod.mk.inj hτ3).2] at this
      exact this
    have hJ3 : JJ g1 W1 l D rec xs (xs.take i) w3 := hin1.jj.grow hs3.tr
    have hrow' : RepCs g1 (fun _ => none) w3 (cellsOf r0 xs[i]) vs.toList := by
      exact repCs_flat rfl hrow
    have hlen : (xs.take i).length + 1 ≤ 2513169434916 := by rw [List.length_take]; omega
    obtain ⟨fn, tmps, assign, body, hy1, hR⟩ := yield_ok hr hl hD hlD hJ3 hlen xs[i] vs hrow'
    obtain ⟨o2, ho2, hg2, hd2, hop2⟩ : ∃ o : Oper, (opsOf (sub [1, 0, 0, 1, 1, 0, 0, 1, 0] b84))[2]? = some o ∧ o.guard = none ∧ o.dst = some 13 ∧ o.op = .call { callee := .value (.tmp 11), args := #[.tmp 12], argTypes := #[43] } :=
      ⟨{ dst := some 13, op := Go.Op.call { callee := Go.Callee.value (Go.Operand.tmp 11), args := #[Go.Operand.tmp 12], argTypes := #[43] }, type := 4, pos := "iter.go:40", after := #[{ on := 0, ground := Go.Ground.data }, { on := 1, ground := Go.Ground.data }], guard := none }, by kernel_rfl, rfl, rfl, rfl⟩
    refine wpOpsIn_cons ho2 hg2 ?_
    refine ⟨fun _ _ => trivial, ?_⟩
    have hy1 : (Instr.yield l #[Value.agg vs]).run cx84.T w3 = .ok (.round l fn tmps assign body) w3 := hy1
    rw [Oper.semAt_eq _ _ _ (fun c h => by rw [hop2] at h; cases h), run_callyield hop2 rfl a3 e11 w3]
    rw [show (#[Operand.tmp 12].map a3.eval) = #[Value.agg vs] by simp [e12], hy1]
    refine ⟨fun h => by simp [Fw, Fence.wide] at h, ?_⟩
    show RoundIn Fence.wide 0 Tryz.prog l fn tmps assign body w3 _
    refine hR.mono ?_
    rintro e W' ⟨rfl, hJ4⟩
    show wpOpsIn _ _ _ _ _ [3] _ _
    rw [hd2]
    have hput : ∀ s, s ≠ 13 → (a3.put (some 13) (.bool true)).tmps.getD s undef = a3.tmps.getD s undef := fun s hs => by
      show (a3.tmps.setIfInBounds 13 (.bool true)).getD s undef = _
      simp [Array.getD_eq_getD_getElem?, Array.getElem?_setIfInBounds, Ne.symm hs]
    have hf4 : Fix l v (.int .i64 xs.length) (.int .i64 i) (a3.put (some 13) (.bool true)).tmps := ⟨(hput 0 (by decide)).trans j0, (hput 5 (by decide)).trans j5, (hput 6 (by decide)).trans j6, (hput 7 (by decide)).trans j7⟩
    have hsz3 : (a3.put (some 13) (.bool true)).tmps.size = 16 := by
      show (a3.tmps.setIfInBounds 13 (.bool true)).size = 16
      rw [Array.size_setIfInBounds]
      exact hs3.size
    rw [show ([3] : List Nat) = List.range' 3 (q84.drop 3).length ++ [] by kernel_rfl]
    have hs4 : Sim ⟨g1, fun _ => none, W', 16⟩ g1 sw84 (a3.put (some 13) (.bool true)) W' := by
      refine ⟨hs3.defers, hsz3, fun s => ?_, hJ4.none, Tr.refl _ _ _⟩
      by_cases hs : s = 13
      · subst hs
        show (a3.tmps.setIfInBounds 13 (.bool true)).getD 13 undef = .bool true
        simp [Array.getD_eq_getD_getElem?, hs3.size]
      · have : sw84.get s = .v (.one .junk) := by
          unfold St.get sw84 lookE
          have : Nat.beq 13 s = false := by
            rw [← Bool.not_eq_true]
            exact fun h => hs (Nat.eq_of_beq_eq_true h).symm
          rw [this]; rfl
        rw [this]; trivial
    refine ops_in (ro := none) (cx := cx84) st84 (ops := opsOf (sub [1, 0, 0, 1, 1, 0, 0, 1, 0] b84)) (os := q84.drop 3) (all := q84) (i := 3) rfl (by kernel_rfl) (fix_keep (l := l) (v := v) (n := .int .i64 xs.length) (i := .int .i64 i) (by kernel_rfl) (by kernel_rfl) (by kernel_rfl) (by kernel_rfl)) ?_ run84_3 [] rfl hs4 hf4 ?_
    · intro j o h
      rw [List.getElem?_drop] at h
      rw [← Array.getElem?_toList]; exact h
    intro τ5 hτ5 gh5 a5 w5 hs5 ⟨m0, m5, m6, m7⟩
    injection hτ5 with hτ5
    have h14 : a5.eval (.tmp 14) = .bool false := by
      have := hs5.env 14
      rw [hτ5] at this
      exact this
    show Code.wpIn _ _ _ _ _ _ _
    refine wpIn_cond_false h14 (wpIn_skip ?_)
    have hJ5 : JJ g1 W1 l D rec xs (xs.take i ++ [xs[i]]) w5 := hJ4.grow hs5.tr
    have hs6 : Sim ⟨g1, fun _ => none, w5, 16⟩ g1 (sv84 (.func (.yield l) #[] #[]) xs xs.length i) a5 w5 := by
      refine ⟨hs5.defers, hs5.size, fun s => ?_, hJ5.none, Tr.refl _ _ _⟩
      show RepV g1 (fun _ => none) w5 (lookE s (sv84 (.func (.yield l) #[] #[]) xs xs.length i).env) _
      match s with
      | 0 => exact ⟨m0, rfl, rfl⟩
      | 5 =>
        show RepD g1.S w5 (.list r0) xs _
        rw [m5]
        exact repD_mono (fun _ h => h) hJ5.cell hv
      | 6 => exact m6
      | 7 => exact m7
      | 1 | 2 | 3 | 4 => trivial
      | n + 8 => trivial
    show Code.wpIn _ _ _ _ _ _ _
    refine region_in' (ro := none) (cx := cx84) (I := fun t => t.getD 0 undef = .func (.yield l) #[] #[] ∧ t.getD 5 undef = v ∧ t.getD 6 undef = .int .i64 xs.length) st84 (by kernel_rfl)
      (keep_and (keep_slot (by kernel_rfl)) (keep_and (keep_slot (by kernel_rfl)) (keep_slot (by kernel_rfl)))) (run84_4 _ xs xs.length i) rfl hs6 ⟨m0, m5, m6⟩ ?_
    intro τ7 hτ7 gh7 a7 w7 hs7 ⟨n0, n5, n6⟩
    injection hτ7 with hτ7
    have n7 : a7.tmps.getD 7 undef = .int .i64 ((i + 1 : Nat) : Int) := by
      have h := hs7.env 7
      rw [hτ7] at h
      have h : a7.tmps.getD 7 undef = .int .i64 (IntKind.wrap IntKind.i64 ((i : Int) + Int.ofNat 1)) := h
      rw [h]
      congr 1
      have : IntKind.wrap IntKind.i64 ((i : Int) + Int.ofNat 1) = (i : Int) + Int.ofNat 1 := IntWalk.i64_in _ (by simp; omega)
      rw [this]
      simp
    show (∃ j, j ≤ xs.length ∧ In84 g1 W1 l D rec xs v j a7 w7) ∧ _
    refine ⟨⟨i + 1, hlt, hs7.defers, hs7.size, n0, n5, n6, n7, ?_⟩, ?_⟩
    · have := hJ5.grow hs7.tr
      rwa [List.take_append_getElem hlt] at this
    · show (match a7.tmps.getD 7 undef with | .int _ z => xs.length - z.toNat | _ => 0) < (match a.tmps.getD 7 undef with | .int _ z => xs.length - z.toNat | _ => 0)
      rw [n7, hin.t7]
      show xs.length - (i + 1) < xs.length - i
      omega
  · -- the end
    have hge : xs.length ≤ i := by simpa using hge
    have hi' : i = xs.length := by omega
    subst hi'
    simp only [Exit.then, Exit.inBlock, ↓reduceIte]
    refine ⟨hin1.defers, _, results_none rfl _ _ _, ⟨_, rfl⟩, ?_⟩
    have := hin1.jj
    rwa [List.take_length] at this
end
@[reducible] def shG : Shape := ⟨[(2, .one (.ptr 100001 0)), (6, .one (.clo 84 [some (100000, 0)]))], [(100001, .box [.own 200001]), (200001, .lst 43 r0 false), (100000, .box [.d (.list r0)])]⟩
def exG (τ : St) : Option (shG.D × Option (Option Nat) × Option (Option Nat)) := (matchShape [] shG τ).bind fun ρ => (exEnv τ shG.env (exMem τ.mem ρ shG.mem)).bind fun p => some (p, lookR 100001 ρ, lookR 100000 ρ)
theorem runG (xs : List r0.D) : (runOps cx110 (opsOf (sub [0] b110)).toList (opsOf (sub [0] b110)).toList (embed sh110 (xs, ())) [] fun _ τ => runOps cx110 (opsOf (sub [1, 0, 0] b110)).toList (opsOf (sub [1, 0, 0] b110)).toList τ [] (fun _ τ => exG τ)) = some (([], xs, ()), some (some 2), some (some 100000)) := by kernel_rfl
def F110 : sh110.D → Option out110.D := fun p => bif decide (p.1.length ≤ 2513169434916) then some (p.1, p.1, ()) else none
noncomputable def e110 : FE := ⟨110, sh110, out110, F110⟩
theorem ok110 : FEOK Tryz.prog e110 := by
  intro p res hF gh w args hsz H hargs
  obtain ⟨xs, u⟩ := p
  have hF : (bif decide (xs.length ≤ 2513169434916) then some (xs, xs, ()) else none) = some res := hF
  cases hcond : decide (xs.length ≤ 2513169434916) with
  | false => rw [hcond] at hF; cases hF
  | true =>
  rw [hcond] at hF
  injection hF with hF
  subst hF
  have hlim : xs.length ≤ 2513169434916 := of_decide_eq_true hcond
  have hb : Tryz.f110.body = some b110 := by kernel_rfl
  have hf : Tryz.prog.funcs[110]? = some Tryz.f110 := by kernel_rfl
  have hsz : args.size = 2 := hsz
  refine .inr ⟨enters_of hf (by kernel_rfl) rfl _ _, (callsIn_wide (n := 0)).1 (callsIn_of_wp_marks hf hb trivial ?_)⟩
  have hs0 : Sim ⟨gh, (embed sh110 (xs, ())).blk, w, 13⟩ gh (embed sh110 (xs, ())) { tmps := args ++ Array.replicate (Tryz.f110.ntmps - args.size) undef, defers := [] } w := by
    refine ⟨rfl, by simp only [Array.size_append, Array.size_replicate]; rw [hsz]; rfl, fun s => ?_, H, Tr.refl _ _ _⟩
    have hg : (args ++ Array.replicate (Tryz.f110.ntmps - args.size) undef).getD s undef = args.getD s undef := by
      simp only [Array.getD_eq_getD_getElem?, Array.getElem?_append, Array.getElem?_replicate]
      split
      · rfl
      · rename_i hlt
        rw [Array.getElem?_eq_none (by omega)]
        split <;> rfl
    rw [hg]
    exact hargs s
  rw [b110_eq]
  refine wpIn_seq ?_
  refine region_in (ro := none) (cx := cx110) st110 (by kernel_rfl) (runG xs) rfl hs0 ?_
  intro τ1 hτ1 gh1 a1 w1 hs1
  show Code.wpIn _ _ _ _ _ _ _
  refine wpIn_seq (wpIn_seq ?_)
  refine region_in (ro := none) (cx := cx110) st110 (by kernel_rfl) hτ1 rfl hs1 ?_
  intro τ2 hτ2 gh2 a2 w2 hs2
  -- the names of the rounds
  unfold exG at hτ2
  cases hm : matchShape [] shG τ2 with
  | none => rw [hm] at hτ2; cases hτ2
  | some ρ =>
  rw [hm, Option.bind_some] at hτ2
  cases hex : exEnv τ2 shG.env (exMem τ2.mem ρ shG.mem) with
  | none => rw [hex] at hτ2; cases hτ2
  | some q =>
  rw [hex, Option.bind_some] at hτ2
  injection hτ2 with hτ2
  obtain ⟨hq, hρ1, hρ0⟩ : q = ([], xs, ()) ∧ lookR 100001 ρ = some (some 2) ∧ lookR 100000 ρ = some (some 100000) := by
    simp only [Prod.mk.injEq] at hτ2
    exact hτ2
  subst hq
  have hfit := fits (s := shG) (σ := τ2) (p := ([], xs, ())) nil_inj hm (by rw [hm, Option.bind_some]; exact hex)
  have Hg : HeapOK (renGh gh2 ρ) (memC [] xs) w2 := heap_ren hs2.heap hfit.inj hfit.has hfit.mem
  have hids : ∀ id b, memC [] xs id = some b → b.live = true → ∀ k, (renGh gh2 ρ).blk id = some k → w.heap.size ≤ k ∨ ∃ j c, (embed sh110 (xs, ())).blk j = some c ∧ c.live = true ∧ gh.blk j = some k := by
    intro id b hib hl k hk
    obtain ⟨j, c, _, h2, h3, h4⟩ := live_ren (gh := gh2) hfit.mem hib hk
    exact hs2.tr.ids j c h2 h3 k h4
  have hv0 : (renGh gh2 ρ).val 100000 = gh.val 100000 := by
    rw [ren_some hρ0]
    have hτn : τ2.blk 100000 ≠ none := by
      have := hfit.mem 100000 (.box [.c (.list r0) xs]) rfl
      cases this with
      | box h h' _ =>
        rw [hρ0] at h; injection h with h; injection h with h; subst h
        intro e
        rw [St.blk, h'] at e
        cases e
    exact (hs2.tr.pin 100000 rfl hτn).2
  have h2v : RepV (renGh gh2 ρ) (memC [] xs) w2 (.v (.one (.ptr 100001 0))) (a2.tmps.getD 2 undef) := a1rel_rep hs2.heap hfit.has (hfit.env 2) (hs2.env 2)
  have h6v : RepV (renGh gh2 ρ) (memC [] xs) w2 (.v (.one (.clo 84 [some (100000, 0)]))) (a2.tmps.getD 6 undef) := a1rel_rep hs2.heap hfit.has (hfit.env 6) (hs2.env 6)
  obtain ⟨_, b2, hb2, ht2⟩ := h2v
  obtain ⟨vs, ht6, hcaps⟩ := h6v
  obtain ⟨Bx, hvsl, hBx⟩ : ∃ Bx, vs = #[.pointer (some ⟨Bx, 0, none⟩)] ∧ (renGh gh2 ρ).val 100000 = .pointer (some ⟨Bx, 0, none⟩) := by
    obtain ⟨l⟩ := vs
    match l, hcaps with
    | [v0], .cons ⟨_, b, hb, hv⟩ .nil => subst hv; exact ⟨b, rfl, hb⟩
  subst hvsl
  have hcall : ∃ v, w2.cell? ⟨Bx, 0, none⟩ = some v ∧ RepD (renGh gh2 ρ).S w2 (.list r0) xs v ∧ ∃ t z vals, w2.heap[Bx]? = some (.cells vals t z) := by
    obtain ⟨g, tid, vals, q1, q2, q3⟩ := Hg.blk 100000 (.box [.c (.list r0) xs]) rfl
    rw [hBx] at q1
    have hg : Bx = g := by injection q1 with q1; injection q1 with q1; injection q1
    subst hg
    obtain ⟨l⟩ := vals
    match l, q3 with
    | [v0], .cons hv .nil => exact ⟨v0, by simp [World.cell?, q2], hv, _, _, _, q2⟩
  obtain ⟨v, hcv, hvr, t9, z9, vals9, hblk9⟩ := hcall
  refine wpIn_block (wpIn_rangeFunc ?_)
  intro fn hfn
  let lp : Loop := { state := .ready, pending := none, fn := fn, tmps := a2.tmps, params := #[7], assign := .region 2 (opsOf as110) false, body := .block 1 (.region 3 (opsOf (sub [0] bo110)) false), defers := w2.heap.size }
  obtain ⟨W1, hW1⟩ : ∃ W1, (w2.alloc (.deferred (some []))).alloc (.loop lp) = W1 := ⟨_, rfl⟩
  have hs3 : (w2.alloc (.deferred (some []))).heap.size = w2.heap.size + 1 := by simp
  have hAs : Aside w2.heap.size w2 W1 := by rw [← hW1]; exact (Aside.alloc _ _ _).trans (Aside.alloc _ _ _)
  have hLW : W1.heap[w2.heap.size + 1]? = some (.loop lp) := by
    rw [← hW1]
    have := World.alloc_heap_new (w2.alloc (.deferred (some []))) (.loop lp)
    rwa [hs3] at this
  have hDW : W1.heap[w2.heap.size]? = some (.deferred (some [])) := by
    rw [← hW1]
    exact (Below.heap_alloc _ _ _ (by rw [hs3]; omega)).trans (World.alloc_heap_new w2 _)
  have hr : RecOK (renGh gh2 ρ) lp := ⟨rfl, rfl, rfl, rfl, rfl, hs2.size, b2, hb2, ht2⟩
  have hJ : JJ (renGh gh2 ρ) w2 (w2.heap.size + 1) w2.heap.size lp xs [] W1 := ⟨⟨_, aside Hg (Tr.refl _ _ _) (Nat.le_refl _) hAs⟩, hLW, hDW⟩
  have hcW : W1.cell? ⟨Bx, 0, none⟩ = some v := by
    rw [← hcv]
    exact World.cell?_of_block (by rw [hAs.cells _ _ _ _ hblk9, hblk9])
  have hval := values_ok hr (by omega) (Nat.le_refl _) (by omega) hJ hvr hcW hlim
  refine ⟨w2.heap.size + 1, [{ target := .collected w2.heap.size, args := #[] }], W1, { target := .fn (.func 84) #[.pointer (some ⟨Bx, 0, none⟩)], args := #[.func (.yield (w2.heap.size + 1)) #[] #[]] }, W1, 84,
    #[.func (.yield (w2.heap.size + 1)) #[] #[], .pointer (some ⟨Bx, 0, none⟩)], W1, ?_, ?_, ?_, ?_, fun h => by simp [Fence.wide] at h, ?_⟩
  · rw [← hW1]; exact run_enterLoop_outer _ _ _ _ _
  · have he6 : a2.eval (.tmp 6) = .func (.func 84) #[] #[.pointer (some ⟨Bx, 0, none⟩)] := ht6
    simp only [resolve, rangeCall, he6, Deferred.ofValue, Sem.run_bind, Sem.run_pure, Result.andThen_ok]
    simp [Act.eval]
  · intro f' hf'; trivial
  · have e84 : ∀ args w, (callFunc 84 args).run Tryz.prog w = .ok (.enter 84 args) w := enters_of (show Tryz.prog.funcs[84]? = some Tryz.f84 by kernel_rfl) (by kernel_rfl) rfl
    simp [invoke, go_sem, e84]
  refine hval.mono ?_
  rintro e W2 ⟨⟨u, rfl⟩, ⟨gh5, H5, T5⟩, hL5, hD5⟩
  have hend := run_endLoop (P := Tryz.prog) hL5 (by simp [lp])
  have hA5 := Aside.putObj (B := w2.heap.size) (o' := .loop { lp with state := .exhausted }) hL5 (by omega) (by simp) (by simp)
  obtain ⟨H6, T6⟩ := aside H5 T5 (Nat.le_refl _) hA5
  have hD6 : (W2.putObj (w2.heap.size + 1) (.loop { lp with state := .exhausted })).heap[w2.heap.size]? = some (.deferred (some [])) := (World.putObj_heap_other (by omega)).trans hD5
  generalize W2.putObj (w2.heap.size + 1) (.loop { lp with state := .exhausted }) = W3 at hend H6 T6 hD6
  refine ⟨none, W3, hend, ?_⟩
  show Code.wpIn _ _ _ _ _ _ _
  refine wpIn_seq ?_
  have hd2 : a2.defers = [] := hs2.defers
  have hpin : gh5.val 100001 = .pointer (some ⟨b2, 0, none⟩) := by rw [(T6.pin 100001 rfl lookup_ne).2]; exact hb2
  have hs6 : Sim ⟨gh5, memC xs xs, W3, 13⟩ gh5 (embed shD (xs, xs, ())) a2 W3 := by
    refine ⟨hd2, hs2.size, fun s => ?_, H6, Tr.refl _ _ _⟩
    show RepV gh5 (memC xs xs) W3 (lookE s [(2, .v (.one (.ptr 100001 0)))]) _
    match s with
    | 2 => exact ⟨lookup_ne, b2, hpin, ht2⟩
    | 0 | 1 => trivial
    | n + 3 => trivial
  have hact : ({ a2 with defers := [{ target := .collected w2.heap.size, args := #[] }] ++ a2.defers } : Act) = dfr [{ target := .collected w2.heap.size, args := #[] }] a2 := by rw [hd2]; rfl
  rw [hact]
  refine region_in_d (ro := none) (cx := cx110) st110 [{ target := .collected w2.heap.size, args := #[] }] (by kernel_rfl) (runE xs xs) rfl hs6 ?_
  intro τ7 hτ7 gh7 a7 w7 hs7
  obtain ⟨gh8, hs8⟩ := sim_extract hτ7 hs7
  have H8 : HeapOK gh8 (embed shE (xs, xs, ())).blk w7 := hs8.heap
  have T8 : Tr gh5 (memC xs xs) W3 gh8 (embed shE (xs, xs, ())).blk w7 := hs8.tr
  have hD7 := other_same H6 T8 hD6 (by simp) (by simp)
  have hA9 := Aside.putObj (B := w2.heap.size) (o' := .deferred none) hD7 (Nat.le_refl _) (by simp) (by simp)
  obtain ⟨H9, T9⟩ := aside H8 (T6.trans T8) (Nat.le_refl _) hA9
  have hc9 := aside_cell H8 hA9
  refine wpIn_ret ?_
  refine ⟨by simp, .inl ⟨_, _, rfl, run_takeDeferred hD7, ?_⟩⟩
  refine ⟨_, results_tmp rfl _ _ _, _, rfl, gh8, H9, ?_, ?_⟩
  · refine tr_join (g1 := renGh gh2 ρ) (m1 := memC [] xs) hs2.tr rfl hids T9 fun id hp hne => ?_
    have : id = 100000 ∨ id = 200000 := by
      by_cases h0 : id = 100000
      · exact .inl h0
      · by_cases h1 : id = 200000
        · exact .inr h1
        · exfalso
          apply hne
          have e0 : Nat.beq 100000 id = false := by rw [← Bool.not_eq_true]; exact fun h => h0 (Nat.eq_of_beq_eq_true h).symm
          have e1 : Nat.beq 200000 id = false := by rw [← Bool.not_eq_true]; exact fun h => h1 (Nat.eq_of_beq_eq_true h).symm
          show lookM id [(100000, _), (200000, _)] = none
          simp only [lookM, e0, e1, cond_false]
    rcases this with rfl | rfl
    · refine ⟨?_, ((T9.pin 100000 rfl hne).2).trans hv0⟩
      show lookM 100000 [(100000, _)] ≠ none
      simp [lookM]
    · cases hp
  · have h4 : RepV gh8 (embed shE (xs, xs, ())).blk w7 (.v (.one (.own 200000))) (a7.tmps.getD 4 undef) := hs8.env 4
    exact repV_mono (g := gh8) (w := w7) (fun _ h => h) hc9 (fun id hid => ⟨hid, rfl⟩) h4
end Go.Vx.Z
/-! Loops, whole numbers. -/
namespace Go.Vx
open Go
set_option linter.unusedVariables false
section
variable {P E : Type} {B : P → Option (P ⊕ E)}
theorem loop_end {p : P} {e : E} (h : B p = some (.inr e)) : loop B p = some e := loop_of_iter (n := 1) (by simp [iter, h])
theorem loop_step {p q : P} {e : E} (h : B p = some (.inl q)) (hq : loop B q = some e) : loop B p = some e := by
  unfold loop at hq
  split at hq
  · rename_i hx
    exact loop_of_iter (n := hx.choose + 1) (by simp [iter, h, hq])
  · cases hq
/-- Some way to the end, and what holds there. -/
theorem loop_inv (I : P → Prop) (m : P → Nat) (Q : E → Prop) (h : ∀ p, I p → (∃ q, B p = some (.inl q) ∧ I q ∧ m q < m p) ∨ (∃ e, B p = some (.inr e) ∧ Q e)) : ∀ p, I p → ∃ e, loop B p = some e ∧ Q e := by
  have key : ∀ n p, m p < n → I p → ∃ e, loop B p = some e ∧ Q e := by
    intro n
    induction n with
    | zero => intro p hn; omega
    | succ n ih =>
      intro p hn hp
      rcases h p hp with ⟨q, h1, h2, h3⟩ | ⟨e, h1, h2⟩
      · obtain ⟨e, h4, h5⟩ := ih q (by omega) h2
        exact ⟨e, loop_step h1 h4, h5⟩
      · exact ⟨e, loop_end h1, h2⟩
  intro p hp
  exact key (m p + 1) p (by omega) hp
/-- States in a row. -/
theorem loop_row (st : Nat → P) (n : Nat) {e : E} (h : ∀ i, i < n → B (st i) = some (.inl (st (i + 1)))) (he : B (st n) = some (.inr e)) : loop B (st 0) = some e := by
  have key : ∀ k, k ≤ n → loop B (st (n - k)) = some e := by
    intro k
    induction k with
    | zero => intro _; exact loop_end he
    | succ k ih =>
      intro hk
      refine loop_step (h (n - (k + 1)) (by omega)) ?_
      rw [show n - (k + 1) + 1 = n - k by omega]
      exact ih (by omega)
  have := key n (Nat.le_refl _)
  rwa [Nat.sub_self] at this
end
theorem wrap64 {x : Int} (h0 : -9223372036854775808 ≤ x) (h1 : x ≤ 9223372036854775807) : IntKind.wrap IntKind.i64 x = x := IntWalk.i64_in x (by omega)
theorem wrap8 {x : Int} (h0 : 0 ≤ x) (h1 : x ≤ 255) : IntKind.wrap IntKind.u8 x = x := by
  show x % 256 = x
  omega
theorem wrap64s (i : Nat) (h : i < 9223372036854775807) : IntKind.wrap IntKind.i64 ((i : Int) + 1) = ((i + 1 : Nat) : Int) := by
  rw [wrap64 (by omega) (by omega)]; omega
/-- A text's bytes. -/
def bs (s : ByteArray) : List UInt8 := s.data.toList
theorem bs_size (s : ByteArray) : s.size = (bs s).length := (Array.length_toList (xs := s.data)).symm
theorem bs_toList (s : ByteArray) : s.toList = bs s := ByteArray.toList_eq s
theorem bs_inj {a b : ByteArray} (h : bs a = bs b) : a = b := by
  cases a; cases b
  simp only [bs, ByteArray.mk.injEq] at h ⊢
  exact Array.toList_inj.1 h
theorem bs_append (a b : ByteArray) : bs (a ++ b) = bs a ++ bs b := by
  simp [bs, ByteArray.data_append]
theorem bs_lit (l : List UInt8) : bs (lit l) = l := rfl
theorem bs_extract (s : ByteArray) (i j : Nat) : bs (s.extract i j) = ((bs s).take j).drop i := by
  simp [bs, ByteArray.data_extract, List.drop_take]
theorem bt_eq (s : ByteArray) (i : Nat) (h : i < s.size) : bt s (i : Int) = (((bs s)[i]'(by rw [← bs_size]; exact h)).toNat : Int) := by
  unfold bt
  have : s[i]? = some ((bs s)[i]'(by rw [← bs_size]; exact h)) := by
    rw [getElem?_pos s i h]
    simp [bs, ByteArray.getElem_eq_getElem_data]
  simp [this]
end Go.Vx
