import Derived.Test.YtmhlgndhcfdlbaaGreatDoorV2
import Derived.Lib.Bytealg
import Derived.Sort.Statements
import Derived.Shelf.SlSortCmp.NoneTotal
set_option linter.unusedSimpArgs false
namespace Go.Vx.Z
open Go Go.Vx Go.Proofs
set_option linter.unusedVariables false
set_option maxRecDepth 1000000
set_option maxHeartbeats 4000000
theorem F43_eq (x0 : List (Ty.D r2)) (x1 : List (Ty.D r3)) (x2 : ByteArray) (x3 x4 : List (Ty.D r0)) (x5 : List (Ty.D r4)) : F43 (x0, x1, x2, x3, x4, x5, ()) = some (x2, x3, x4, x5, x0, x1, ()) := by kernel_rfl
theorem B66_0_eq (x0 : ByteArray) (x1 : List (Ty.D r4)) (x2 x3 : Int) (x4 x5 : ByteArray) (x6 x7 x8 : Int) (x9 : ByteArray) : B66_0 (x0, x1, x2, x3, x4, x5, x6, x7, x8, x9, ()) = bif decide (x3 < x2) then bif decide (Int.ofNat 0 ≤ x3) then Option.bind x1[Int.toNat x3]? fun (y : ByteArray × ByteArray × Int × Int × Int × ByteArray × Unit) => bif ByteArray.toList y.1 == ByteArray.toList x0 then
 some (Sum.inr (Sum.inl (true, y.1, y.2.1, y.2.2.1, y.2.2.2.1, y.2.2.2.2.1, y.2.2.2.2.2.1, ()))) else some (Sum.inl (x0, x1, x2, IntKind.wrap IntKind.i64 (x3 + Int.ofNat 1), x4, x5, x6, x7, x8, x9, ())) else none else some (Sum.inr (Sum.inr (x4, x5, x6, x7, x8, x9, ()))) := by kernel_rfl
theorem F66_eq (x0 : ByteArray) (x1 x2 : List (Ty.D r0)) (x3 : List (Ty.D r4)) (x4 : List (Ty.D r2)) (x5 : List (Ty.D r3)) (x6 : ByteArray) : F66 (x0, x1, x2, x3, x4, x5, x6, ()) = Option.bind (loop B66_0 (x6, x3, Int.ofNat (List.length x3), Int.ofNat 0, (lit []), (lit []), Int.ofNat 0, Int.ofNat 0, Int.ofNat 0, (lit []), ())) fun (r :
 Bool × ByteArray × ByteArray × Int × Int × Int × ByteArray × Unit ⊕ ByteArray × ByteArray × Int × Int × Int × ByteArray × Unit) => Sum.elim (fun (p : Bool × ByteArray × ByteArray × Int × Int × Int × ByteArray × Unit) => some (p.2.1, p.2.2.1, p.2.2.2.1, p.2.2.2.2.1, p.2.2.2.2.2.1, p.2.2.2.2.2.2.1, p.1, ())) (fun (p : ByteArray × ByteArray × Int × Int × Int × ByteArray × Unit) => some
 ((lit []), (lit []), Int.ofNat 0, Int.ofNat 0, Int.ofNat 0, (lit []), false, ())) r := by kernel_rfl
theorem F56_eq (x0 : List (Ty.D r0)) : F56 (x0, ()) = bif match x0 with | [] => true | head :: tail => false then both (some ([], ())) (bif decide (0 + List.length x0 ≤ 2513169434916) then some ([] ++ x0, ()) else none) else bif decide (0 + List.length x0 ≤ 2513169434916) then some ([] ++ x0, ()) else none := by kernel_rfl
theorem B111_0_eq (x0 : ByteArray) (x1 : List (Ty.D r2)) (x2 x3 : Int) (x4 : ByteArray) : B111_0 (x0, x1, x2, x3, x4, ()) = bif decide (x3 < x2) then bif decide (Int.ofNat 0 ≤ x3) then Option.bind x1[Int.toNat x3]? fun (y : ByteArray × List (Int × Int × Int × ByteArray × List (ByteArray × Int × Int × Int × ByteArray × Unit) × ByteArray × ByteArray × Unit) × Unit) =>
 bif ByteArray.toList y.1 == ByteArray.toList x0 then some (Sum.inr (Sum.inl (true, y.1, y.2.1, ()))) else some (Sum.inl (x0, x1, x2, IntKind.wrap IntKind.i64 (x3 + Int.ofNat 1), x4, ())) else none else some (Sum.inr (Sum.inr (x4, ()))) := by kernel_rfl
theorem F111_eq (x0 : List (Ty.D r2)) (x1 : List (Ty.D r3)) (x2 : ByteArray) : F111 (x0, x1, x2, ()) = Option.bind (loop B111_0 (x2, x0, Int.ofNat (List.length x0), Int.ofNat 0, (lit []), ())) fun (r : Bool × ByteArray × List (Int × Int × Int × ByteArray × List (ByteArray × Int × Int × Int × ByteArray × Unit) × ByteArray × ByteArray × Unit) × Unit ⊕ ByteArray × Unit) => Sum.elim (fun (p : Bool ×
 ByteArray × List (Int × Int × Int × ByteArray × List (ByteArray × Int × Int × Int × ByteArray × Unit) × ByteArray × ByteArray × Unit) × Unit) => some (p.2.1, p.2.2.1, p.1, ())) (fun (p : ByteArray × Unit) => some ((lit []), [], false, ())) r := by kernel_rfl
theorem B86_0_eq (x0 : List (Ty.D r1)) (x1 x2 x3 x4 x5 : Int) (x6 : ByteArray) (x7 x8 x9 : Int) (x10 x11 x12 : ByteArray) : B86_0 (x0, x1, x2, x3, x4, x5, x6, x7, x8, x9, x10, x11, x12, ()) = bif decide (x2 < x1) then bif decide (Int.ofNat 0 ≤ x2) then Option.bind x0[Int.toNat x2]? fun (y : Int × Int × Int ×
 ByteArray × List (ByteArray × Int × Int × Int × ByteArray × Unit) × ByteArray × ByteArray × Unit) => bif y.1 == x3 && (y.2.1 == x4 && (y.2.2.1 == x5 && ByteArray.toList y.2.2.2.1 == ByteArray.toList x6)) then some (Sum.inr (Sum.inl (true, y.1, y.2.1, y.2.2.1, y.2.2.2.1, y.2.2.2.2.1, y.2.2.2.2.2.1, y.2.2.2.2.2.2.1, ()))) else some (Sum.inl
 (x0, x1, IntKind.wrap IntKind.i64 (x2 + Int.ofNat 1), x3, x4, x5, x6, x7, x8, x9, x10, x11, x12, ())) else none else some (Sum.inr (Sum.inr (x7, x8, x9, x10, x11, x12, ()))) := by kernel_rfl
theorem F86_eq (x0 : List (Ty.D r2)) (x1 : List (Ty.D r3)) (x2 : ByteArray) (x3 x4 x5 : Int) (x6 : ByteArray) : F86 (x0, x1, x2, x3, x4, x5, x6, ()) = Option.bind (F111 (x0, x1, x2, ())) fun (r : ByteArray × List (Int × Int × Int × ByteArray × List (ByteArray × Int × Int × Int × ByteArray × Unit) × ByteArray × ByteArray × Unit) × Bool × Unit) => Option.bind (loop B86_0
 (r.2.1, Int.ofNat (List.length r.2.1), Int.ofNat 0, x3, x4, x5, x6, Int.ofNat 0, Int.ofNat 0, Int.ofNat 0, (lit []), (lit []), (lit []), ())) fun (r : Bool × Int × Int × Int × ByteArray × List (ByteArray × Int × Int × Int × ByteArray × Unit) × ByteArray × ByteArray × Unit ⊕ Int × Int × Int × ByteArray × ByteArray × ByteArray × Unit) => Sum.elim (fun (p : Bool × Int × Int × Int × ByteArray ×
 List (ByteArray × Int × Int × Int × ByteArray × Unit) × ByteArray × ByteArray × Unit) => some (p.2.1, p.2.2.1, p.2.2.2.1, p.2.2.2.2.1, p.2.2.2.2.2.1, p.2.2.2.2.2.2.1, p.2.2.2.2.2.2.2.1, p.1, ())) (fun (p : Int × Int × Int × ByteArray × ByteArray × ByteArray × Unit) => some (Int.ofNat 0, Int.ofNat 0, Int.ofNat 0, (lit []), [], (lit []), (lit []), false, ())) r := by kernel_rfl
theorem F69_eq (x0 : List (Ty.D r2)) (x1 : List (Ty.D r3)) (x2 : ByteArray) (x3 x4 x5 : Int) (x6 : ByteArray) : F69 (x0, x1, x2, x3, x4, x5, x6, ()) = Option.bind (F86 (x0, x1, x2, x3, x4, x5, x6, ())) fun (r : Int × Int × Int × ByteArray × List (ByteArray × Int × Int × Int × ByteArray × Unit) × ByteArray × ByteArray × Bool × Unit) => Option.bind (F56 (r.2.2.2.2.1, ()))
 fun (r_1 : List (ByteArray × Int × Int × Int × ByteArray × Unit) × Unit) => some (r.1, r.2.1, r.2.2.1, r.2.2.2.1, r_1.1, r.2.2.2.2.2.1, r.2.2.2.2.2.2.1, r.2.2.2.2.2.2.2.1, ()) := by kernel_rfl
theorem B128_0_eq (x0 : List (Ty.D r0)) (x1 x2 : Int) (x3 : ByteArray) (x4 x5 x6 : Int) (x7 : ByteArray) : B128_0 (x0, x1, x2, x3, x4, x5, x6, x7, ()) = bif decide (x2 < x1) then bif decide (Int.ofNat 0 ≤ x2) then Option.bind x0[Int.toNat x2]? fun (y : ByteArray × Int × Int × Int × ByteArray × Unit) => bif ByteArray.toList x3 == ByteArray.toList y.1 && (x4 == y.2.1 &&
 (x5 == y.2.2.1 && (x6 == y.2.2.2.1 && ByteArray.toList x7 == ByteArray.toList y.2.2.2.2.1))) then some (Sum.inr (Sum.inl (x2, ()))) else some (Sum.inl (x0, x1, IntKind.wrap IntKind.i64 (x2 + Int.ofNat 1), x3, x4, x5, x6, x7, ())) else none else some (Sum.inr (Sum.inr ())) := by kernel_rfl
theorem F128_eq (x0 : List (Ty.D r0)) (x1 : ByteArray) (x2 x3 x4 : Int) (x5 : ByteArray) : F128 (x0, x1, x2, x3, x4, x5, ()) = Option.bind (loop B128_0 (x0, Int.ofNat (List.length x0), Int.ofNat 0, x1, x2, x3, x4, x5, ())) fun (r : Int × Unit ⊕ Unit) => Sum.elim (fun (p : Int × Unit) => some (p.1, ())) (fun (p : Unit) => some (Int.negSucc 0, ())) r := by kernel_rfl
theorem F112_eq (x0 : List (Ty.D r0)) (x1 : ByteArray) (x2 x3 x4 : Int) (x5 : ByteArray) : F112 (x0, x1, x2, x3, x4, x5, ()) = Option.bind (F128 (x0, x1, x2, x3, x4, x5, ())) fun (r : Int × Unit) => some (decide (r.1 ≥ Int.ofNat 0), ()) := by kernel_rfl
theorem F87_eq (x0 : ByteArray) (x1 x2 : List (Ty.D r0)) (x3 : List (Ty.D r4)) (x4 : List (Ty.D r2)) (x5 : List (Ty.D r3)) (x6 : ByteArray) (x7 x8 x9 : Int) (x10 : ByteArray) : F87 (x0, x1, x2, x3, x4, x5, x6, x7, x8, x9, x10, ()) = Option.bind (F112 (x2, x6, x7, x8, x9, x10, ())) fun (r : Bool × Unit) => some (r.1, ()) := by kernel_rfl
theorem B103_0_eq (x0 : Int) (x1 : List Int) (x2 x3 : Int) : B103_0 (x0, x1, x2, x3, ()) = bif decide (x3 < x2) then bif decide (Int.ofNat 0 ≤ x3) then Option.bind x1[Int.toNat x3]? fun (y : Int) => bif !y == x0 then some (Sum.inr (Sum.inl (y, ()))) else some (Sum.inl (x0, x1, x2, IntKind.wrap IntKind.i64 (x3 + Int.ofNat 1), ())) else none else some (Sum.inr (Sum.inr (x0, ()))) := by kernel_rfl
theorem F103_eq (x0 : List Int) : F103 (x0, ()) = Option.bind (loop B103_0 (Int.ofNat 0, x0, Int.ofNat (List.length x0), Int.ofNat 0, ())) fun (r : Int × Unit ⊕ Int × Unit) => Sum.elim (fun (p : Int × Unit) => some (p.1, ())) (fun (p : Int × Unit) => some (p.1, ())) r := by kernel_rfl
theorem F121_eq (x0 : Int) : F121 (x0, ()) = some (!x0 == x0, ()) := by kernel_rfl
theorem F104_eq (x0 x1 : Int) : F104 (x0, x1, ()) = Option.bind (F121 (x0, ())) fun (r : Bool × Unit) => Option.bind (F121 (x1, ())) fun (r_1 : Bool × Unit) => bif r.1 then bif r_1.1 then some (Int.ofNat 0, ()) else some (Int.negSucc 0, ()) else bif r_1.1 then some (Int.ofNat 1, ()) else bif decide (x0 < x1) then some (Int.negSucc 0, ())
 else bif decide (x0 > x1) then some (Int.ofNat 1, ()) else some (Int.ofNat 0, ()) := by kernel_rfl
theorem B131_0_eq (x0 : ByteArray) (x1 x2 : Int) : B131_0 (x0, x1, x2, ()) = bif decide (x2 < x1) then bif decide (Int.ofNat 0 ≤ x2) && decide (x2 < Int.ofNat (ByteArray.size x0)) then bif decide (bt x0 x2 < Int.ofNat 48) then some (Sum.inr (Sum.inl (false, ()))) else bif decide (Int.ofNat 0 ≤ x2) && decide (x2 < Int.ofNat (ByteArray.size x0)) then
 bif decide (bt x0 x2 > Int.ofNat 57) then some (Sum.inr (Sum.inl (false, ()))) else some (Sum.inl (x0, x1, IntKind.wrap IntKind.i64 (x2 + Int.ofNat 1), ())) else none else none else some (Sum.inr (Sum.inr (x0, ()))) := by kernel_rfl
theorem F131_eq (x0 : ByteArray) : F131 (x0, ()) = Option.bind (loop B131_0 (x0, Int.ofNat (ByteArray.size x0), Int.ofNat 0, ())) fun (r : Bool × Unit ⊕ ByteArray × Unit) => Sum.elim (fun (p : Bool × Unit) => some (p.1, ())) (fun (p : ByteArray × Unit) => some (!ByteArray.toList p.1 == [], ())) r := by kernel_rfl
theorem F136_eq (x0 : ByteArray) : F136 (x0, ()) = some (!ByteArray.toList x0 == ByteArray.toList x0, ()) := by kernel_rfl
theorem F132_eq (x0 x1 : ByteArray) : F132 (x0, x1, ()) = Option.bind (F136 (x0, ())) fun (r : Bool × Unit) => Option.bind (F136 (x1, ())) fun (r_1 : Bool × Unit) => bif r.1 then bif r_1.1 then some (Int.ofNat 0, ()) else some (Int.negSucc 0, ()) else bif r_1.1 then some (Int.ofNat 1, ()) else bif Op.bytesLess (ByteArray.toList x0) (ByteArray.toList x1) then some (Int.negSucc 0, ()) else bif
 !(Op.bytesLess (ByteArray.toList x0) (ByteArray.toList x1) || ByteArray.toList x0 == ByteArray.toList x1) then some (Int.ofNat 1, ()) else some (Int.ofNat 0, ()) := by kernel_rfl
theorem F124_eq (x0 x1 : ByteArray) : F124 (x0, x1, ()) = Option.bind (F131 (x0, ())) fun (r : Bool × Unit) => Option.bind (F131 (x1, ())) fun (r_1 : Bool × Unit) => bif r.1 then bif r_1.1 then Option.bind (F104 (Int.ofNat (ByteArray.size x0), Int.ofNat (ByteArray.size x1), ())) fun (r : Int × Unit) => Option.bind (F132 (x0, x1, ())) fun (r_2 : Int × Unit) =>
 Option.bind (F103 ([r.1, r_2.1], ())) fun (r : Int × Unit) => some (r.1, ()) else bif r.1 then some (Int.negSucc 0, ()) else bif r_1.1 then some (Int.ofNat 1, ()) else Option.bind (F132 (x0, x1, ())) fun (r : Int × Unit) => some (r.1, ()) else bif r.1 then some (Int.negSucc 0, ()) else bif r_1.1 then some (Int.ofNat 1, ())
 else Option.bind (F132 (x0, x1, ())) fun (r : Int × Unit) => some (r.1, ()) := by kernel_rfl
theorem B122_0_eq (x0 x1 x2 : List ByteArray) (x3 x4 : Int) : B122_0 (x0, x1, x2, x3, x4, ()) = bif decide (x4 < x3) then bif decide (Int.ofNat 0 ≤ x4) then Option.bind x2[Int.toNat x4]? fun (y : ByteArray) => bif decide (x4 ≥ Int.ofNat (List.length x1)) then some (Sum.inr (Sum.inl (Int.ofNat 1, ()))) else bif decide (Int.ofNat 0 ≤ x4) then Option.bind x1[Int.toNat x4]? fun (y_1 : ByteArray) =>
 Option.bind (F124 (y, y_1, ())) fun (r : Int × Unit) => bif !r.1 == Int.ofNat 0 then some (Sum.inr (Sum.inl (r.1, ()))) else some (Sum.inl (x0, x1, x2, x3, IntKind.wrap IntKind.i64 (x4 + Int.ofNat 1), ())) else none else none else some (Sum.inr (Sum.inr (x0, x1, ()))) := by kernel_rfl
theorem F122_eq (x0 x1 : List ByteArray) : F122 (x0, x1, ()) = Option.bind (loop B122_0 (x0, x1, x0, Int.ofNat (List.length x0), Int.ofNat 0, ())) fun (r : Int × Unit ⊕ List ByteArray × List ByteArray × Unit) => Sum.elim (fun (p : Int × Unit) => some (p.1, ())) (fun (p : List ByteArray × List ByteArray × Unit) =>
 bif decide (Int.ofNat (List.length p.1) < Int.ofNat (List.length p.2.1)) then some (Int.negSucc 0, ()) else some (Int.ofNat 0, ())) r := by kernel_rfl
theorem F142_eq (x0 : ByteArray) (x1 : Int) : F142 (x0, x1, ()) = some (xIndexByte x0 x1, ()) := by kernel_rfl
theorem F140_eq (x0 x1 : ByteArray) : F140 (x0, x1, ()) = bif Int.ofNat (ByteArray.size x1) == Int.ofNat 0 then some (Int.ofNat 0, ()) else bif ByteArray.toList x1 == ByteArray.toList x0 then some (Int.ofNat 0, ()) else bif Int.ofNat (ByteArray.size x1) == Int.ofNat 1 then bif decide (Int.ofNat 0 < Int.ofNat (ByteArray.size x1)) then
 Option.bind (F142 (x0, bt x1 (Int.ofNat 0), ())) fun (r : Int × Unit) => some (r.1, ()) else none else bif decide (Int.ofNat (ByteArray.size x1) ≥ Int.ofNat (ByteArray.size x0)) then some (Int.negSucc 0, ()) else none := by kernel_rfl
theorem F135_eq (x0 x1 : ByteArray) : F135 (x0, x1, ()) = Option.bind (F140 (x0, x1, ())) fun (r : Int × Unit) => some (r.1, ()) := by kernel_rfl
theorem B134_0_eq (x0 x1 : ByteArray) (x2 : Int) : B134_0 (x0, x1, x2, ()) = Option.bind (F135 (x0, x1, ())) fun (r : Int × Unit) => bif r.1 == Int.negSucc 0 then some (Sum.inr (x2, ())) else bif decide (Int.ofNat 0 ≤ IntKind.wrap IntKind.i64 (r.1 + Int.ofNat (ByteArray.size x1))) && (decide (IntKind.wrap IntKind.i64 (r.1 + Int.ofNat (ByteArray.size x1)) ≤ Int.ofNat (ByteArray.size x0)) &&
 decide (Int.ofNat (ByteArray.size x0) ≤ Int.ofNat (ByteArray.size x0))) then some (Sum.inl (ByteArray.extract x0 (Int.toNat (IntKind.wrap IntKind.i64 (r.1 + Int.ofNat (ByteArray.size x1)))) (Int.toNat (Int.ofNat (ByteArray.size x0))), x1, IntKind.wrap IntKind.i64 (x2 + Int.ofNat 1), ())) else none := by kernel_rfl
theorem F134_eq (x0 x1 : ByteArray) : F134 (x0, x1, ()) = bif Int.ofNat (ByteArray.size x1) == Int.ofNat 0 then none else bif Int.ofNat (ByteArray.size x1) == Int.ofNat 1 then bif decide (Int.ofNat 0 < Int.ofNat (ByteArray.size x1)) then some (xCount x0 (bt x1 (Int.ofNat 0)), ()) else none
 else Option.bind (loop B134_0 (x0, x1, Int.ofNat 0, ())) fun (r : Int × Unit) => some (r.1, ()) := by kernel_rfl
theorem B130_0_eq (x0 x1 : ByteArray) (x2 x3 x4 : Int) (x5 : List ByteArray) : B130_0 (x0, x1, x2, x3, x4, x5, ()) = bif decide (x4 < x3) then Option.bind (F135 (x0, x1, ())) fun (r : Int × Unit) => bif decide (r.1 < Int.ofNat 0) then some (Sum.inr (x0, x4, x5, ())) else bif decide (Int.ofNat 0 ≤ IntKind.wrap IntKind.i64 (r.1 + x2)) &&
 decide (IntKind.wrap IntKind.i64 (r.1 + x2) ≤ Int.ofNat (ByteArray.size x0)) then bif decide (Int.ofNat 0 ≤ x4) && decide (x4 < Int.ofNat (List.length x5)) then Option.bind x5[Int.toNat x4]? fun (y : ByteArray) => bif decide (Int.ofNat 0 ≤ IntKind.wrap IntKind.i64 (r.1 + Int.ofNat (ByteArray.size x1))) && (decide (IntKind.wrap IntKind.i64 (r.1 + Int.ofNat (ByteArray.size x1)) ≤
 Int.ofNat (ByteArray.size x0)) && decide (Int.ofNat (ByteArray.size x0) ≤ Int.ofNat (ByteArray.size x0))) then some (Sum.inl (ByteArray.extract x0 (Int.toNat (IntKind.wrap IntKind.i64 (r.1 + Int.ofNat (ByteArray.size x1)))) (Int.toNat (Int.ofNat (ByteArray.size x0))), x1, x2, x3, IntKind.wrap IntKind.i64 (x4 + Int.ofNat 1), List.set x5 (Int.toNat x4)
 (ByteArray.extract x0 0 (Int.toNat (IntKind.wrap IntKind.i64 (r.1 + x2)))), ())) else none else none else none else some (Sum.inr (x0, x4, x5, ())) := by kernel_rfl
theorem F130_eq (x0 x1 : ByteArray) (x2 x3 : Int) : F130 (x0, x1, x2, x3, ()) = bif x3 == Int.ofNat 0 then some ([], ()) else bif ByteArray.toList x1 == [] then none else bif decide (x3 < Int.ofNat 0) then Option.bind (F134 (x0, x1, ())) fun (r : Int × Unit) => bif decide (Int.ofNat 0 ≤ bif decide (IntKind.wrap IntKind.i64 (Int.ofNat (ByteArray.size x0) + Int.ofNat 1) <
 IntKind.wrap IntKind.i64 (r.1 + Int.ofNat 1)) then IntKind.wrap IntKind.i64 (Int.ofNat (ByteArray.size x0) + Int.ofNat 1) else IntKind.wrap IntKind.i64 (r.1 + Int.ofNat 1)) && (decide ((bif decide (IntKind.wrap IntKind.i64 (Int.ofNat (ByteArray.size x0) + Int.ofNat 1) < IntKind.wrap IntKind.i64 (r.1 + Int.ofNat 1)) then IntKind.wrap IntKind.i64 (Int.ofNat (ByteArray.size x0) + Int.ofNat 1)
 else IntKind.wrap IntKind.i64 (r.1 + Int.ofNat 1)) ≤ bif decide (IntKind.wrap IntKind.i64 (Int.ofNat (ByteArray.size x0) + Int.ofNat 1) < IntKind.wrap IntKind.i64 (r.1 + Int.ofNat 1)) then IntKind.wrap IntKind.i64 (Int.ofNat (ByteArray.size x0) + Int.ofNat 1) else IntKind.wrap IntKind.i64 (r.1 + Int.ofNat 1)) && decide ((Int.ofNat 16 * bif decide
 (IntKind.wrap IntKind.i64 (Int.ofNat (ByteArray.size x0) + Int.ofNat 1) < IntKind.wrap IntKind.i64 (r.1 + Int.ofNat 1)) then IntKind.wrap IntKind.i64 (Int.ofNat (ByteArray.size x0) + Int.ofNat 1) else IntKind.wrap IntKind.i64 (r.1 + Int.ofNat 1)) ≤ Int.ofNat 281474976710656) && decide ((bif decide (IntKind.wrap IntKind.i64 (Int.ofNat (ByteArray.size x0) + Int.ofNat 1) <
 IntKind.wrap IntKind.i64 (r.1 + Int.ofNat 1)) then IntKind.wrap IntKind.i64 (Int.ofNat (ByteArray.size x0) + Int.ofNat 1) else IntKind.wrap IntKind.i64 (r.1 + Int.ofNat 1)) ≤ Int.ofNat 9223372036854775807)) then Option.bind (loop B130_0 (x0, x1, x2, IntKind.wrap IntKind.i64 ((bif decide (IntKind.wrap IntKind.i64 (Int.ofNat (ByteArray.size x0) + Int.ofNat 1) <
 IntKind.wrap IntKind.i64 (r.1 + Int.ofNat 1)) then IntKind.wrap IntKind.i64 (Int.ofNat (ByteArray.size x0) + Int.ofNat 1) else IntKind.wrap IntKind.i64 (r.1 + Int.ofNat 1)) - Int.ofNat 1), Int.ofNat 0, List.replicate (Int.toNat (bif decide (IntKind.wrap IntKind.i64 (Int.ofNat (ByteArray.size x0) + Int.ofNat 1) < IntKind.wrap IntKind.i64 (r.1 + Int.ofNat 1)) then
 IntKind.wrap IntKind.i64 (Int.ofNat (ByteArray.size x0) + Int.ofNat 1) else IntKind.wrap IntKind.i64 (r.1 + Int.ofNat 1))) (lit []), ())) fun (r : ByteArray × Int × List ByteArray × Unit) => bif decide (Int.ofNat 0 ≤ r.2.1) && decide (r.2.1 < Int.ofNat (List.length r.2.2.1)) then Option.bind r.2.2.1[Int.toNat r.2.1]? fun (y : ByteArray) => bif
 decide (Int.ofNat 0 ≤ IntKind.wrap IntKind.i64 (r.2.1 + Int.ofNat 1)) && (decide (IntKind.wrap IntKind.i64 (r.2.1 + Int.ofNat 1) ≤ Int.ofNat (List.length (List.set r.2.2.1 (Int.toNat r.2.1) r.1))) && decide (Int.ofNat (List.length (List.set r.2.2.1 (Int.toNat r.2.1) r.1)) ≤ Int.ofNat (List.length (List.set r.2.2.1 (Int.toNat r.2.1) r.1)))) then some (List.drop 0
 (List.take (0 + Int.toNat (IntKind.wrap IntKind.i64 (r.2.1 + Int.ofNat 1))) (List.set r.2.2.1 (Int.toNat r.2.1) r.1)), ()) else none else none else none else bif decide (Int.ofNat 0 ≤ bif decide (IntKind.wrap IntKind.i64 (Int.ofNat (ByteArray.size x0) + Int.ofNat 1) < x3) then IntKind.wrap IntKind.i64 (Int.ofNat (ByteArray.size x0) + Int.ofNat 1) else x3) && (decide
 ((bif decide (IntKind.wrap IntKind.i64 (Int.ofNat (ByteArray.size x0) + Int.ofNat 1) < x3) then IntKind.wrap IntKind.i64 (Int.ofNat (ByteArray.size x0) + Int.ofNat 1) else x3) ≤ bif decide (IntKind.wrap IntKind.i64 (Int.ofNat (ByteArray.size x0) + Int.ofNat 1) < x3) then IntKind.wrap IntKind.i64 (Int.ofNat (ByteArray.size x0) + Int.ofNat 1) else x3) && decide ((Int.ofNat 16 *
 bif decide (IntKind.wrap IntKind.i64 (Int.ofNat (ByteArray.size x0) + Int.ofNat 1) < x3) then IntKind.wrap IntKind.i64 (Int.ofNat (ByteArray.size x0) + Int.ofNat 1) else x3) ≤ Int.ofNat 281474976710656) && decide ((bif decide (IntKind.wrap IntKind.i64 (Int.ofNat (ByteArray.size x0) + Int.ofNat 1) < x3) then IntKind.wrap IntKind.i64 (Int.ofNat (ByteArray.size x0) + Int.ofNat 1) else x3) ≤
 Int.ofNat 9223372036854775807)) then Option.bind (loop B130_0 (x0, x1, x2, IntKind.wrap IntKind.i64 ((bif decide (IntKind.wrap IntKind.i64 (Int.ofNat (ByteArray.size x0) + Int.ofNat 1) < x3) then IntKind.wrap IntKind.i64 (Int.ofNat (ByteArray.size x0) + Int.ofNat 1) else x3) - Int.ofNat 1), Int.ofNat 0, List.replicate (Int.toNat
 (bif decide (IntKind.wrap IntKind.i64 (Int.ofNat (ByteArray.size x0) + Int.ofNat 1) < x3) then IntKind.wrap IntKind.i64 (Int.ofNat (ByteArray.size x0) + Int.ofNat 1) else x3)) (lit []), ())) fun (r : ByteArray × Int × List ByteArray × Unit) => bif decide (Int.ofNat 0 ≤ r.2.1) && decide (r.2.1 < Int.ofNat (List.length r.2.2.1)) then Option.bind r.2.2.1[Int.toNat r.2.1]? fun (y : ByteArray) => bif
 decide (Int.ofNat 0 ≤ IntKind.wrap IntKind.i64 (r.2.1 + Int.ofNat 1)) && (decide (IntKind.wrap IntKind.i64 (r.2.1 + Int.ofNat 1) ≤ Int.ofNat (List.length (List.set r.2.2.1 (Int.toNat r.2.1) r.1))) && decide (Int.ofNat (List.length (List.set r.2.2.1 (Int.toNat r.2.1) r.1)) ≤ Int.ofNat (List.length (List.set r.2.2.1 (Int.toNat r.2.1) r.1)))) then some (List.drop 0
 (List.take (0 + Int.toNat (IntKind.wrap IntKind.i64 (r.2.1 + Int.ofNat 1))) (List.set r.2.2.1 (Int.toNat r.2.1) r.1)), ()) else none else none else none := by kernel_rfl
theorem F123_eq (x0 x1 : ByteArray) : F123 (x0, x1, ()) = Option.bind (F130 (x0, x1, Int.ofNat 0, Int.negSucc 0, ())) fun (r : List ByteArray × Unit) => some (r.1, ()) := by kernel_rfl
theorem F105_eq (x0 x1 : ByteArray) : F105 (x0, x1, ()) = bif ByteArray.toList x0 == ByteArray.toList x1 then some (Int.ofNat 0, ()) else bif ByteArray.toList x0 == [] then some (Int.ofNat 1, ()) else bif ByteArray.toList x1 == [] then some (Int.negSucc 0, ()) else Option.bind (F123 (x0, (lit [46]), ())) fun (r : List ByteArray × Unit) => Option.bind (F123 (x1, (lit [46]), ()))
 fun (r_1 : List ByteArray × Unit) => Option.bind (F122 (r.1, r_1.1, ())) fun (r : Int × Unit) => some (r.1, ()) := by kernel_rfl
theorem F76_eq (x0 x1 x2 : Int) (x3 : ByteArray) (x4 x5 x6 : Int) (x7 : ByteArray) : F76 (x0, x1, x2, x3, x4, x5, x6, x7, ()) = Option.bind (F104 (x0, x4, ())) fun (r : Int × Unit) => Option.bind (F104 (x1, x5, ())) fun (r_1 : Int × Unit) => Option.bind (F104 (x2, x6, ())) fun (r_2 : Int × Unit) => Option.bind (F105 (x3, x7, ())) fun (r_3 : Int × Unit) =>
 Option.bind (F103 ([r.1, r_1.1, r_2.1, r_3.1], ())) fun (r : Int × Unit) => some (r.1, ()) := by kernel_rfl
theorem F90_eq (x0 x1 x2 : Int) (x3 x4 : ByteArray) (x5 x6 x7 : Int) (x8 x9 : ByteArray) (x10 x11 : List (Ty.D r0)) (x12 : List (Ty.D r4)) (x13 : List (Ty.D r2)) (x14 : List (Ty.D r3)) : F90 (x0, x1, x2, x3, x4, x5, x6, x7, x8, x9, x10, x11, x12, x13, x14, ()) = Option.bind (F76 (x0, x1, x2, x3, x5, x6, x7, x8, ())) fun (r : Int × Unit) =>
 bif decide (r.1 ≥ Int.ofNat 0) then some (true, x4, x5, x6, x7, x8, x9, x10, x11, x12, x13, x14, ()) else Option.bind (F87 (x9, x10, x11, x12, x13, x14, x4, x0, x1, x2, x3, ())) fun (r : Bool × Unit) => some (r.1, x4, x5, x6, x7, x8, x9, x10, x11, x12, x13, x14, ()) := by kernel_rfl
theorem B113_0_eq (x0 x1 : Int) (x2 : List (Ty.D r5)) (x3 : ByteArray) (x4 x5 x6 : Int) (x7 x8 : ByteArray) (x9 x10 : List (Ty.D r0)) (x11 : List (Ty.D r4)) (x12 : List (Ty.D r2)) (x13 : List (Ty.D r3)) : B113_0 (x0, x1, x2, x3, x4, x5, x6, x7, x8, x9, x10, x11, x12, x13, ()) = bif decide (x1 < x0) then bif decide (Int.ofNat 0 ≤ x1) && decide (x1 < Int.ofNat (List.length x2)) then
 Option.bind x2[Int.toNat x1]? fun (y : Int × Int × Int × ByteArray × Unit) => Option.bind (F90 (y.1, y.2.1, y.2.2.1, y.2.2.2.1, x3, x4, x5, x6, x7, x8, x9, x10, x11, x12, x13, ())) fun (r : Bool × ByteArray × Int × Int × Int × ByteArray × ByteArray × List (ByteArray × Int × Int × Int × ByteArray × Unit) × List (ByteArray × Int × Int × Int × ByteArray × Unit) ×
 List (ByteArray × ByteArray × Int × Int × Int × ByteArray × Unit) × List (ByteArray × List (Int × Int × Int × ByteArray × List (ByteArray × Int × Int × Int × ByteArray × Unit) × ByteArray × ByteArray × Unit) × Unit) × List (ByteArray × ByteArray × Bool × Bool × Int × Int × Int × ByteArray × Int × Unit) × Unit) => bif r.1 then some (Sum.inr (Sum.inl
 (x1, x2, r.2.1, r.2.2.1, r.2.2.2.1, r.2.2.2.2.1, r.2.2.2.2.2.1, r.2.2.2.2.2.2.1, r.2.2.2.2.2.2.2.1, r.2.2.2.2.2.2.2.2.1, r.2.2.2.2.2.2.2.2.2.1, r.2.2.2.2.2.2.2.2.2.2.1, r.2.2.2.2.2.2.2.2.2.2.2.1, ()))) else some (Sum.inl (x0, IntKind.wrap IntKind.i64 (x1 + Int.ofNat 1), x2, r.2.1, r.2.2.1, r.2.2.2.1, r.2.2.2.2.1,
 r.2.2.2.2.2.1, r.2.2.2.2.2.2.1, r.2.2.2.2.2.2.2.1, r.2.2.2.2.2.2.2.2.1, r.2.2.2.2.2.2.2.2.2.1, r.2.2.2.2.2.2.2.2.2.2.1, r.2.2.2.2.2.2.2.2.2.2.2.1, ())) else none else some (Sum.inr (Sum.inr (x2, x3, x4, x5, x6, x7, x8, x9, x10, x11, x12, x13, ()))) := by kernel_rfl
theorem F113_eq (x0 : List (Ty.D r5)) (x1 : ByteArray) (x2 x3 x4 : Int) (x5 x6 : ByteArray) (x7 x8 : List (Ty.D r0)) (x9 : List (Ty.D r4)) (x10 : List (Ty.D r2)) (x11 : List (Ty.D r3)) : F113 (x0, x1, x2, x3, x4, x5, x6, x7, x8, x9, x10, x11, ()) = Option.bind (loop B113_0 (Int.ofNat (List.length x0), Int.ofNat 0, x0, x1, x2, x3, x4, x5, x6, x7, x8, x9, x10, x11, ())) fun (r : Int ×
 List (Int × Int × Int × ByteArray × Unit) × ByteArray × Int × Int × Int × ByteArray × ByteArray × List (ByteArray × Int × Int × Int × ByteArray × Unit) × List (ByteArray × Int × Int × Int × ByteArray × Unit) × List (ByteArray × ByteArray × Int × Int × Int × ByteArray × Unit) × List (ByteArray × List (Int × Int × Int × ByteArray × List (ByteArray × Int × Int × Int × ByteArray × Unit) ×
 ByteArray × ByteArray × Unit) × Unit) × List (ByteArray × ByteArray × Bool × Bool × Int × Int × Int × ByteArray × Int × Unit) × Unit ⊕ List (Int × Int × Int × ByteArray × Unit) × ByteArray × Int × Int × Int × ByteArray × ByteArray × List (ByteArray × Int × Int × Int × ByteArray × Unit) × List (ByteArray × Int × Int × Int × ByteArray × Unit) ×
 List (ByteArray × ByteArray × Int × Int × Int × ByteArray × Unit) × List (ByteArray × List (Int × Int × Int × ByteArray × List (ByteArray × Int × Int × Int × ByteArray × Unit) × ByteArray × ByteArray × Unit) × Unit) × List (ByteArray × ByteArray × Bool × Bool × Int × Int × Int × ByteArray × Int × Unit) × Unit) => Sum.elim (fun (p : Int × List (Int × Int × Int × ByteArray × Unit) × ByteArray ×
 Int × Int × Int × ByteArray × ByteArray × List (ByteArray × Int × Int × Int × ByteArray × Unit) × List (ByteArray × Int × Int × Int × ByteArray × Unit) × List (ByteArray × ByteArray × Int × Int × Int × ByteArray × Unit) × List (ByteArray × List (Int × Int × Int × ByteArray × List (ByteArray × Int × Int × Int × ByteArray × Unit) × ByteArray × ByteArray × Unit) × Unit) × List (ByteArray ×
 ByteArray × Bool × Bool × Int × Int × Int × ByteArray × Int × Unit) × Unit) => some (p.1, p.2.1, p.2.2.1, p.2.2.2.1, p.2.2.2.2.1, p.2.2.2.2.2.1, p.2.2.2.2.2.2.1, p.2.2.2.2.2.2.2.1, p.2.2.2.2.2.2.2.2.1, p.2.2.2.2.2.2.2.2.2.1, p.2.2.2.2.2.2.2.2.2.2.1, p.2.2.2.2.2.2.2.2.2.2.2.1, p.2.2.2.2.2.2.2.2.2.2.2.2.1, ())) (fun (p : List (Int × Int × Int × ByteArray × Unit) × ByteArray × Int × Int × Int ×
 ByteArray × ByteArray × List (ByteArray × Int × Int × Int × ByteArray × Unit) × List (ByteArray × Int × Int × Int × ByteArray × Unit) × List (ByteArray × ByteArray × Int × Int × Int × ByteArray × Unit) × List (ByteArray × List (Int × Int × Int × ByteArray × List (ByteArray × Int × Int × Int × ByteArray × Unit) × ByteArray × ByteArray × Unit) × Unit) × List (ByteArray ×
 ByteArray × Bool × Bool × Int × Int × Int × ByteArray × Int × Unit) × Unit) => some (Int.negSucc 0, p.1, p.2.1, p.2.2.1, p.2.2.2.1, p.2.2.2.2.1, p.2.2.2.2.2.1, p.2.2.2.2.2.2.1, p.2.2.2.2.2.2.2.1, p.2.2.2.2.2.2.2.2.1, p.2.2.2.2.2.2.2.2.2.1, p.2.2.2.2.2.2.2.2.2.2.1, p.2.2.2.2.2.2.2.2.2.2.2.1, ())) r := by kernel_rfl
theorem B88_0_eq (x0 x1 : Int) (x2 : List (Ty.D r5)) (x3 : ByteArray) (x4 x5 x6 : Int) (x7 x8 : ByteArray) (x9 x10 : List (Ty.D r0)) (x11 : List (Ty.D r4)) (x12 : List (Ty.D r2)) (x13 : List (Ty.D r3)) : B88_0 (x0, x1, x2, x3, x4, x5, x6, x7, x8, x9, x10, x11, x12, x13, ()) = bif decide (x1 < Int.ofNat (List.length x2)) then
 bif decide (Int.ofNat 0 ≤ x1) && decide (x1 < Int.ofNat (List.length x2)) then Option.bind x2[Int.toNat x1]? fun (y : Int × Int × Int × ByteArray × Unit) => Option.bind (F90 (y.1, y.2.1, y.2.2.1, y.2.2.2.1, x3, x4, x5, x6, x7, x8, x9, x10, x11, x12, x13, ())) fun (r : Bool × ByteArray × Int × Int × Int × ByteArray × ByteArray × List (ByteArray × Int × Int × Int × ByteArray × Unit) ×
 List (ByteArray × Int × Int × Int × ByteArray × Unit) × List (ByteArray × ByteArray × Int × Int × Int × ByteArray × Unit) × List (ByteArray × List (Int × Int × Int × ByteArray × List (ByteArray × Int × Int × Int × ByteArray × Unit) × ByteArray × ByteArray × Unit) × Unit) × List (ByteArray × ByteArray × Bool × Bool × Int × Int × Int × ByteArray × Int × Unit) × Unit) => bif !r.1 then
 bif decide (Int.ofNat 0 ≤ x0) && decide (x0 < Int.ofNat (List.length x2)) then Option.bind x2[Int.toNat x0]? fun (y_1 : Int × Int × Int × ByteArray × Unit) => some (Sum.inl (IntKind.wrap IntKind.i64 (x0 + Int.ofNat 1), IntKind.wrap IntKind.i64 (x1 + Int.ofNat 1), List.set x2 (Int.toNat x0) (y.1, y.2.1, y.2.2.1, y.2.2.2.1, ()), r.2.1, r.2.2.1,
 r.2.2.2.1, r.2.2.2.2.1, r.2.2.2.2.2.1, r.2.2.2.2.2.2.1, r.2.2.2.2.2.2.2.1, r.2.2.2.2.2.2.2.2.1, r.2.2.2.2.2.2.2.2.2.1, r.2.2.2.2.2.2.2.2.2.2.1, r.2.2.2.2.2.2.2.2.2.2.2.1, ())) else none else some (Sum.inl (x0, IntKind.wrap IntKind.i64 (x1 + Int.ofNat 1), x2, r.2.1, r.2.2.1, r.2.2.2.1, r.2.2.2.2.1, r.2.2.2.2.2.1, r.2.2.2.2.2.2.1, r.2.2.2.2.2.2.2.1, r.2.2.2.2.2.2.2.2.1, r.2.2.2.2.2.2.2.2.2.1,
 r.2.2.2.2.2.2.2.2.2.2.1, r.2.2.2.2.2.2.2.2.2.2.2.1, ())) else none else some (Sum.inr (x0, x2, x3, x4, x5, x6, x7, x8, x9, x10, x11, x12, x13, ())) := by kernel_rfl
theorem F88_eq (x0 : List (Ty.D r5)) (x1 : ByteArray) (x2 x3 x4 : Int) (x5 x6 : ByteArray) (x7 x8 : List (Ty.D r0)) (x9 : List (Ty.D r4)) (x10 : List (Ty.D r2)) (x11 : List (Ty.D r3)) : F88 (x0, x1, x2, x3, x4, x5, x6, x7, x8, x9, x10, x11, ()) = Option.bind (F113 (x0, x1, x2, x3, x4, x5, x6, x7, x8, x9, x10, x11, ())) fun (r : Int × List (Int × Int × Int × ByteArray × Unit) × ByteArray × Int ×
 Int × Int × ByteArray × ByteArray × List (ByteArray × Int × Int × Int × ByteArray × Unit) × List (ByteArray × Int × Int × Int × ByteArray × Unit) × List (ByteArray × ByteArray × Int × Int × Int × ByteArray × Unit) × List (ByteArray × List (Int × Int × Int × ByteArray × List (ByteArray × Int × Int × Int × ByteArray × Unit) × ByteArray × ByteArray × Unit) × Unit) ×
 List (ByteArray × ByteArray × Bool × Bool × Int × Int × Int × ByteArray × Int × Unit) × Unit) => bif r.1 == Int.negSucc 0 then some (r.2.1, r.2.1, r.2.2.1, r.2.2.2.1, r.2.2.2.2.1, r.2.2.2.2.2.1, r.2.2.2.2.2.2.1, r.2.2.2.2.2.2.2.1, r.2.2.2.2.2.2.2.2.1, r.2.2.2.2.2.2.2.2.2.1, r.2.2.2.2.2.2.2.2.2.2.1, r.2.2.2.2.2.2.2.2.2.2.2.1, r.2.2.2.2.2.2.2.2.2.2.2.2.1, ()) else Option.bind (loop B88_0
 (r.1, IntKind.wrap IntKind.i64 (r.1 + Int.ofNat 1), r.2.1, r.2.2.1, r.2.2.2.1, r.2.2.2.2.1, r.2.2.2.2.2.1, r.2.2.2.2.2.2.1, r.2.2.2.2.2.2.2.1, r.2.2.2.2.2.2.2.2.1, r.2.2.2.2.2.2.2.2.2.1, r.2.2.2.2.2.2.2.2.2.2.1, r.2.2.2.2.2.2.2.2.2.2.2.1, r.2.2.2.2.2.2.2.2.2.2.2.2.1, ())) fun (r : Int × List (Int × Int × Int × ByteArray × Unit) × ByteArray × Int × Int × Int × ByteArray × ByteArray ×
 List (ByteArray × Int × Int × Int × ByteArray × Unit) × List (ByteArray × Int × Int × Int × ByteArray × Unit) × List (ByteArray × ByteArray × Int × Int × Int × ByteArray × Unit) × List (ByteArray × List (Int × Int × Int × ByteArray × List (ByteArray × Int × Int × Int × ByteArray × Unit) × ByteArray × ByteArray × Unit) × Unit) × List (ByteArray ×
 ByteArray × Bool × Bool × Int × Int × Int × ByteArray × Int × Unit) × Unit) => bif decide (Int.ofNat 0 ≤ r.1) && (decide (r.1 ≤ Int.ofNat (List.length r.2.1)) && (decide (Int.ofNat (List.length r.2.1) ≤ Int.ofNat (List.length r.2.1)) && decide (Int.ofNat (List.length r.2.1) ≤ Int.ofNat (List.length r.2.1)))) then bif decide (Int.ofNat 0 ≤ r.1) && (decide (r.1 ≤ Int.ofNat (List.length
 (List.take (0 + Int.toNat r.1) r.2.1 ++ List.replicate (0 + Int.toNat (Int.ofNat (List.length r.2.1)) - (0 + Int.toNat r.1)) (Int.ofNat 0, Int.ofNat 0, Int.ofNat 0, (lit []), ()) ++ List.drop (0 + Int.toNat r.1 + (0 + Int.toNat (Int.ofNat (List.length r.2.1)) - (0 + Int.toNat r.1))) r.2.1))) && decide (Int.ofNat (List.length (List.take (0 + Int.toNat r.1) r.2.1 ++
 List.replicate (0 + Int.toNat (Int.ofNat (List.length r.2.1)) - (0 + Int.toNat r.1)) (Int.ofNat 0, Int.ofNat 0, Int.ofNat 0, (lit []), ()) ++ List.drop (0 + Int.toNat r.1 + (0 + Int.toNat (Int.ofNat (List.length r.2.1)) - (0 + Int.toNat r.1))) r.2.1)) ≤ Int.ofNat (List.length (List.take (0 + Int.toNat r.1) r.2.1 ++
 List.replicate (0 + Int.toNat (Int.ofNat (List.length r.2.1)) - (0 + Int.toNat r.1)) (Int.ofNat 0, Int.ofNat 0, Int.ofNat 0, (lit []), ()) ++ List.drop (0 + Int.toNat r.1 + (0 + Int.toNat (Int.ofNat (List.length r.2.1)) - (0 + Int.toNat r.1))) r.2.1)))) then some (List.drop 0 (List.take (0 + Int.toNat r.1) (List.take (0 + Int.toNat r.1) r.2.1 ++
 List.replicate (0 + Int.toNat (Int.ofNat (List.length r.2.1)) - (0 + Int.toNat r.1)) (Int.ofNat 0, Int.ofNat 0, Int.ofNat 0, (lit []), ()) ++ List.drop (0 + Int.toNat r.1 + (0 + Int.toNat (Int.ofNat (List.length r.2.1)) - (0 + Int.toNat r.1))) r.2.1)), List.take (0 + Int.toNat r.1) r.2.1 ++ List.replicate (0 + Int.toNat (Int.ofNat (List.length r.2.1)) - (0 + Int.toNat r.1))
 (Int.ofNat 0, Int.ofNat 0, Int.ofNat 0, (lit []), ()) ++ List.drop (0 + Int.toNat r.1 + (0 + Int.toNat (Int.ofNat (List.length r.2.1)) - (0 + Int.toNat r.1))) r.2.1, r.2.2.1, r.2.2.2.1, r.2.2.2.2.1, r.2.2.2.2.2.1, r.2.2.2.2.2.2.1, r.2.2.2.2.2.2.2.1, r.2.2.2.2.2.2.2.2.1, r.2.2.2.2.2.2.2.2.2.1, r.2.2.2.2.2.2.2.2.2.2.1, r.2.2.2.2.2.2.2.2.2.2.2.1, r.2.2.2.2.2.2.2.2.2.2.2.2.1, ()) else none
 else none := by kernel_rfl
theorem B89_0_eq (x0 : List (Ty.D r1)) (x1 x2 : Int) (x3 : List (Ty.D r5)) : B89_0 (x0, x1, x2, x3, ()) = bif decide (x2 < x1) then bif decide (Int.ofNat 0 ≤ x2) then Option.bind x0[Int.toNat x2]? fun (y : Int × Int × Int × ByteArray × List (ByteArray × Int × Int × Int × ByteArray × Unit) × ByteArray × ByteArray × Unit) =>
 bif decide (List.length x3 + List.length [(y.1, y.2.1, y.2.2.1, y.2.2.2.1, ())] ≤ 3518437208883) then some (Sum.inl (x0, x1, IntKind.wrap IntKind.i64 (x2 + Int.ofNat 1), x3 ++ [(y.1, y.2.1, y.2.2.1, y.2.2.2.1, ())], ())) else none else none else some (Sum.inr (x3, ())) := by kernel_rfl
theorem F89_eq (x0 : List (Ty.D r2)) (x1 : List (Ty.D r3)) (x2 : ByteArray) : F89 (x0, x1, x2, ()) = Option.bind (F111 (x0, x1, x2, ())) fun (r : ByteArray × List (Int × Int × Int × ByteArray × List (ByteArray × Int × Int × Int × ByteArray × Unit) × ByteArray × ByteArray × Unit) × Bool × Unit) => bif decide (Int.ofNat 0 ≤ Int.ofNat (List.length r.2.1)) &&
 decide (Int.ofNat 40 * Int.ofNat (List.length r.2.1) ≤ Int.ofNat 281474976710656) && decide (Int.ofNat (List.length r.2.1) ≤ Int.ofNat 9223372036854775807) then Option.bind (loop B89_0 (r.2.1, Int.ofNat (List.length r.2.1), Int.ofNat 0, [], ())) fun (r : List (Int × Int × Int × ByteArray × Unit) × Unit) => some (r.1, ()) else none := by kernel_rfl
theorem B114_0_eq (x0 : List (Ty.D r5)) (x1 x2 x3 x4 : Int) (x5 : ByteArray) (x6 x7 x8 : Int) (x9 : ByteArray) : B114_0 (x0, x1, x2, x3, x4, x5, x6, x7, x8, x9, ()) = bif decide (x1 < Int.ofNat (List.length x0)) then bif decide (Int.ofNat 0 ≤ x1) then Option.bind x0[Int.toNat x1]? fun (y : Int × Int × Int × ByteArray × Unit) =>
 Option.bind (F76 (y.1, y.2.1, y.2.2.1, y.2.2.2.1, x6, x7, x8, x9, ())) fun (r : Int × Unit) => bif decide (r.1 > Int.ofNat 0) then bif decide (Int.ofNat 0 ≤ x1) then Option.bind x0[Int.toNat x1]? fun (y : Int × Int × Int × ByteArray × Unit) => some (Sum.inl (x0, IntKind.wrap IntKind.i64 (x1 + Int.ofNat 1), x2, x3, x4, x5, y.1, y.2.1, y.2.2.1, y.2.2.2.1, ())) else none else
 some (Sum.inl (x0, IntKind.wrap IntKind.i64 (x1 + Int.ofNat 1), x2, x3, x4, x5, x6, x7, x8, x9, ())) else none else some (Sum.inr (x2, x3, x4, x5, x6, x7, x8, x9, ())) := by kernel_rfl
theorem F114_eq (x0 : List (Ty.D r5)) : F114 (x0, ()) = bif decide (Int.ofNat (List.length x0) < Int.ofNat 1) then none else Option.bind x0[0]? fun (y : Int × Int × Int × ByteArray × Unit) => Option.bind (loop B114_0 (x0, Int.ofNat 1, Int.ofNat 0, Int.ofNat 0, Int.ofNat 0, (lit []), y.1, y.2.1, y.2.2.1, y.2.2.2.1, ())) fun (r : Int × Int × Int × ByteArray × Int × Int × Int × ByteArray × Unit) =>
 some (r.2.2.2.2.1, r.2.2.2.2.2.1, r.2.2.2.2.2.2.1, r.2.2.2.2.2.2.2.1, ()) := by kernel_rfl
theorem F91_eq (x0 : List (Ty.D r5)) : F91 (x0, ()) = bif Int.ofNat (List.length x0) == Int.ofNat 0 then some (Int.ofNat 0, Int.ofNat 0, Int.ofNat 0, (lit []), ()) else Option.bind (F114 (x0, ())) fun (r : Int × Int × Int × ByteArray × Unit) => some (r.1, r.2.1, r.2.2.1, r.2.2.2.1, ()) := by kernel_rfl
theorem F72_eq (x0 : ByteArray) (x1 x2 : List (Ty.D r0)) (x3 : List (Ty.D r4)) (x4 : List (Ty.D r2)) (x5 : List (Ty.D r3)) (x6 : ByteArray) (x7 x8 x9 : Int) (x10 : ByteArray) : F72 (x0, x1, x2, x3, x4, x5, x6, x7, x8, x9, x10, ()) = Option.bind (F66 (x0, x1, x2, x3, x4, x5, x6, ())) fun (r : ByteArray × ByteArray × Int × Int × Int × ByteArray × Bool × Unit) =>
 bif r.2.2.2.2.2.2.1 then some (x6, x7, x8, x9, x10, true, Int.ofNat 0, ()) else bif ByteArray.toList x6 == ByteArray.toList x0 then some ((lit []), Int.ofNat 0, Int.ofNat 0, Int.ofNat 0, (lit []), false, Int.ofNat 0, ()) else Option.bind (F87 (x0, x1, x2, x3, x4, x5, x6, x7, x8, x9, x10, ())) fun (r : Bool × Unit) => bif !r.1 then Option.bind (F69 (x4, x5, x6, x7, x8, x9, x10, ())) fun (r :
 Int × Int × Int × ByteArray × List (ByteArray × Int × Int × Int × ByteArray × Unit) × ByteArray × ByteArray × Bool × Unit) => bif !r.2.2.2.2.2.2.2.1 then some ((lit []), Int.ofNat 0, Int.ofNat 0, Int.ofNat 0, (lit []), false, Int.ofNat 9, ()) else some (x6, x7, x8, x9, x10, true, Int.ofNat 0, ()) else
 Option.bind (F89 (x4, x5, x6, ())) fun (r : List (Int × Int × Int × ByteArray × Unit) × Unit) => Option.bind (F88 (r.1, x6, x7, x8, x9, x10, x0, x1, x2, x3, x4, x5, ())) fun (r : List (Int × Int × Int × ByteArray × Unit) × List (Int × Int × Int × ByteArray × Unit) × ByteArray × Int × Int × Int × ByteArray × ByteArray × List (ByteArray × Int × Int × Int × ByteArray × Unit) ×
 List (ByteArray × Int × Int × Int × ByteArray × Unit) × List (ByteArray × ByteArray × Int × Int × Int × ByteArray × Unit) × List (ByteArray × List (Int × Int × Int × ByteArray × List (ByteArray × Int × Int × Int × ByteArray × Unit) × ByteArray × ByteArray × Unit) × Unit) × List (ByteArray × ByteArray × Bool × Bool × Int × Int × Int × ByteArray × Int × Unit) × Unit) =>
 bif Int.ofNat (List.length r.1) == Int.ofNat 0 then some ((lit []), Int.ofNat 0, Int.ofNat 0, Int.ofNat 0, (lit []), false, Int.ofNat 13, ()) else Option.bind (F91 (r.1, ())) fun (r_1 : Int × Int × Int × ByteArray × Unit) => some (r.2.2.1, r_1.1, r_1.2.1, r_1.2.2.1, r_1.2.2.2.1, true, Int.ofNat 0, ()) := by kernel_rfl
theorem B53_0_eq (x0 : List (Ty.D r0)) (x1 x2 : Int) (x3 : ByteArray) (x4 x5 : List (Ty.D r0)) (x6 : List (Ty.D r4)) (x7 : List (Ty.D r2)) (x8 : List (Ty.D r3)) (x9 : List (Ty.D r0)) : B53_0 (x0, x1, x2, x3, x4, x5, x6, x7, x8, x9, ()) = bif decide (x2 < x1) then bif decide (Int.ofNat 0 ≤ x2) then Option.bind x0[Int.toNat x2]? fun (y : ByteArray × Int × Int × Int × ByteArray × Unit) =>
 Option.bind (F72 (x3, x4, x5, x6, x7, x8, y.1, y.2.1, y.2.2.1, y.2.2.2.1, y.2.2.2.2.1, ())) fun (r : ByteArray × Int × Int × Int × ByteArray × Bool × Int × Unit) => bif !r.2.2.2.2.2.2.1 == Int.ofNat 0 then some (Sum.inr (Sum.inl (r.2.2.2.2.2.2.1, ()))) else bif r.2.2.2.2.2.1 then bif decide (List.length x9 + List.length [(r.1, r.2.1, r.2.2.1, r.2.2.2.1, r.2.2.2.2.1, ())] ≤ 2513169434916) then
 some (Sum.inl (x0, x1, IntKind.wrap IntKind.i64 (x2 + Int.ofNat 1), x3, x4, x5, x6, x7, x8, x9 ++ [(r.1, r.2.1, r.2.2.1, r.2.2.2.1, r.2.2.2.2.1, ())], ())) else none else some (Sum.inl (x0, x1, IntKind.wrap IntKind.i64 (x2 + Int.ofNat 1), x3, x4, x5, x6, x7, x8, x9, ())) else none else some (Sum.inr (Sum.inr (x9, ()))) := by kernel_rfl
theorem F53_eq (x0 : ByteArray) (x1 x2 : List (Ty.D r0)) (x3 : List (Ty.D r4)) (x4 : List (Ty.D r2)) (x5 : List (Ty.D r3)) (x6 : List (Ty.D r0)) : F53 (x0, x1, x2, x3, x4, x5, x6, ()) = Option.bind (loop B53_0 (x6, Int.ofNat (List.length x6), Int.ofNat 0, x0, x1, x2, x3, x4, x5, [], ())) fun (r : Int × Unit ⊕ List (ByteArray × Int × Int × Int × ByteArray × Unit) × Unit) =>
 Sum.elim (fun (p : Int × Unit) => some (p.1, [], ())) (fun (p : List (ByteArray × Int × Int × Int × ByteArray × Unit) × Unit) => some (Int.ofNat 0, p.1, ())) r := by kernel_rfl
theorem F102_eq (x0 x1 : ByteArray) : F102 (x0, x1, ()) = some (xCompare x0 x1, ()) := by kernel_rfl
theorem F75_eq (x0 x1 : ByteArray) : F75 (x0, x1, ()) = Option.bind (F102 (x0, x1, ())) fun (r : Int × Unit) => some (r.1, ()) := by kernel_rfl
theorem F55_eq (x0 : ByteArray) (x1 x2 x3 : Int) (x4 x5 : ByteArray) (x6 x7 x8 : Int) (x9 : ByteArray) : F55 (x0, x1, x2, x3, x4, x5, x6, x7, x8, x9, ()) = Option.bind (F75 (x0, x5, ())) fun (r : Int × Unit) => bif !r.1 == Int.ofNat 0 then some (r.1, ()) else Option.bind (F76 (x1, x2, x3, x4, x6, x7, x8, x9, ())) fun (r : Int × Unit) => some (r.1, ()) := by kernel_rfl
theorem F70_eq (x0 : List (Ty.D r0)) : F70 (x0, ()) = bif decide (Int.ofNat 0 ≤ Int.ofNat (List.length x0)) && (decide (Int.ofNat (List.length x0) ≤ Int.ofNat (List.length x0)) && decide (Int.ofNat (List.length x0) ≤ Int.ofNat (List.length x0))) then some (List.drop 0 (List.take (Int.toNat (Int.ofNat (List.length x0))) x0), ()) else none := by kernel_rfl
theorem B71_0_eq (x0 : Int) (x1 x2 : Nat) (x3 : Int) (x4 : List (Ty.D r0)) : B71_0 (x0, x1, x2, x3, x4, ()) = bif decide (x3 < Int.ofNat (x2 - x1)) then bif decide (Int.ofNat 0 ≤ x3) && decide (x3 < Int.ofNat (x2 - x1)) then Option.bind x4[x1 + Int.toNat x3]? fun (y : ByteArray × Int × Int × Int × ByteArray × Unit) => bif decide (Int.ofNat 0 ≤ IntKind.wrap IntKind.i64 (x3 - Int.ofNat 1)) &&
 decide (IntKind.wrap IntKind.i64 (x3 - Int.ofNat 1) < Int.ofNat (x2 - x1)) then Option.bind x4[x1 + Int.toNat (IntKind.wrap IntKind.i64 (x3 - Int.ofNat 1))]? fun (y_1 : ByteArray × Int × Int × Int × ByteArray × Unit) => bif !(ByteArray.toList y.1 == ByteArray.toList y_1.1 && (y.2.1 == y_1.2.1 && (y.2.2.1 == y_1.2.2.1 && (y.2.2.2.1 == y_1.2.2.2.1 &&
 ByteArray.toList y.2.2.2.2.1 == ByteArray.toList y_1.2.2.2.2.1)))) then bif decide (Int.ofNat 0 ≤ x3) && decide (x3 < Int.ofNat (x2 - x1)) then Option.bind x4[x1 + Int.toNat x3]? fun (y : ByteArray × Int × Int × Int × ByteArray × Unit) => bif decide (Int.ofNat 0 ≤ x0) && decide (x0 < Int.ofNat (List.length x4)) then
 Option.bind x4[Int.toNat x0]? fun (y_2 : ByteArray × Int × Int × Int × ByteArray × Unit) => some (Sum.inl (IntKind.wrap IntKind.i64 (x0 + Int.ofNat 1), x1, x2, IntKind.wrap IntKind.i64 (x3 + Int.ofNat 1), List.set x4 (Int.toNat x0) (y.1, y.2.1, y.2.2.1, y.2.2.2.1, y.2.2.2.2.1, ()), ())) else none else none else some (Sum.inl (x0, x1, x2, IntKind.wrap IntKind.i64 (x3 + Int.ofNat 1), x4, ()))
 else none else none else some (Sum.inr (x0, x4, ())) := by kernel_rfl
theorem B71_1_eq (x0 : Int) (x1 : List (Ty.D r0)) : B71_1 (x0, x1, ()) = bif decide (x0 < Int.ofNat (List.length x1)) then bif decide (Int.ofNat 0 ≤ x0) && decide (x0 < Int.ofNat (List.length x1)) then Option.bind x1[Int.toNat x0]? fun (y : ByteArray × Int × Int × Int × ByteArray × Unit) => bif decide (Int.ofNat 0 ≤ IntKind.wrap IntKind.i64 (x0 - Int.ofNat 1)) &&
 decide (IntKind.wrap IntKind.i64 (x0 - Int.ofNat 1) < Int.ofNat (List.length x1)) then Option.bind x1[Int.toNat (IntKind.wrap IntKind.i64 (x0 - Int.ofNat 1))]? fun (y_1 : ByteArray × Int × Int × Int × ByteArray × Unit) => bif ByteArray.toList y.1 == ByteArray.toList y_1.1 && (y.2.1 == y_1.2.1 && (y.2.2.1 == y_1.2.2.1 && (y.2.2.2.1 == y_1.2.2.2.1 &&
 ByteArray.toList y.2.2.2.2.1 == ByteArray.toList y_1.2.2.2.2.1))) then bif decide (Int.ofNat 0 ≤ x0) && (decide (x0 ≤ Int.ofNat (List.length x1)) && (decide (Int.ofNat (List.length x1) ≤ Int.ofNat (List.length x1)) && decide (Int.ofNat (List.length x1) ≤ Int.ofNat (List.length x1)))) then Option.bind (loop B71_0
 (x0, 0 + Int.toNat x0, 0 + Int.toNat (Int.ofNat (List.length x1)), Int.ofNat 1, x1, ())) fun (r : Int × List (ByteArray × Int × Int × Int × ByteArray × Unit) × Unit) => bif decide (Int.ofNat 0 ≤ r.1) && (decide (r.1 ≤ Int.ofNat (List.length r.2.1)) && (decide (Int.ofNat (List.length r.2.1) ≤ Int.ofNat (List.length r.2.1)) &&
 decide (Int.ofNat (List.length r.2.1) ≤ Int.ofNat (List.length r.2.1)))) then bif decide (Int.ofNat 0 ≤ r.1) && (decide (r.1 ≤ Int.ofNat (List.length (List.take (0 + Int.toNat r.1) r.2.1 ++ List.replicate (0 + Int.toNat (Int.ofNat (List.length r.2.1)) - (0 + Int.toNat r.1)) ((lit []), Int.ofNat 0, Int.ofNat 0, Int.ofNat 0, (lit []), ()) ++ List.drop (0 + Int.toNat r.1 +
 (0 + Int.toNat (Int.ofNat (List.length r.2.1)) - (0 + Int.toNat r.1))) r.2.1))) && decide (Int.ofNat (List.length (List.take (0 + Int.toNat r.1) r.2.1 ++ List.replicate (0 + Int.toNat (Int.ofNat (List.length r.2.1)) - (0 + Int.toNat r.1)) ((lit []), Int.ofNat 0, Int.ofNat 0, Int.ofNat 0, (lit []), ()) ++ List.drop (0 + Int.toNat r.1 +
 (0 + Int.toNat (Int.ofNat (List.length r.2.1)) - (0 + Int.toNat r.1))) r.2.1)) ≤ Int.ofNat (List.length (List.take (0 + Int.toNat r.1) r.2.1 ++ List.replicate (0 + Int.toNat (Int.ofNat (List.length r.2.1)) - (0 + Int.toNat r.1)) ((lit []), Int.ofNat 0, Int.ofNat 0, Int.ofNat 0, (lit []), ()) ++ List.drop (0 + Int.toNat r.1 + (0 + Int.toNat (Int.ofNat (List.length r.2.1)) - (0 + Int.toNat r.1)))
 r.2.1)))) then some (Sum.inr (Sum.inl (0, 0 + Int.toNat r.1, List.take (0 + Int.toNat r.1) r.2.1 ++ List.replicate (0 + Int.toNat (Int.ofNat (List.length r.2.1)) - (0 + Int.toNat r.1)) ((lit []), Int.ofNat 0, Int.ofNat 0, Int.ofNat 0, (lit []), ()) ++ List.drop (0 + Int.toNat r.1 + (0 + Int.toNat (Int.ofNat (List.length r.2.1)) - (0 + Int.toNat r.1))) r.2.1, ()))) else none else none else none
 else some (Sum.inl (IntKind.wrap IntKind.i64 (x0 + Int.ofNat 1), x1, ())) else none else none else some (Sum.inr (Sum.inr (x1, ()))) := by kernel_rfl
theorem F71_eq (x0 : List (Ty.D r0)) : F71 (x0, ()) = bif decide (Int.ofNat (List.length x0) < Int.ofNat 2) then some (x0, x0, ()) else Option.bind (loop B71_1 (Int.ofNat 1, x0, ())) fun (r : Nat × Nat × List (ByteArray × Int × Int × Int × ByteArray × Unit) × Unit ⊕ List (ByteArray × Int × Int × Int × ByteArray × Unit) × Unit) => Sum.elim
 (fun (p : Nat × Nat × List (ByteArray × Int × Int × Int × ByteArray × Unit) × Unit) => some (List.drop p.1 (List.take p.2.1 p.2.2.1), p.2.2.1, ())) (fun (p : List (ByteArray × Int × Int × Int × ByteArray × Unit) × Unit) => some (p.1, p.1, ())) r := by kernel_rfl
theorem F65_eq (x0 : List (Ty.D r0)) : F65 (x0, ()) = some (x0, ()) := by kernel_rfl
theorem F67_eq (x0 : List (Ty.D r6)) : F67 (x0, ()) = bif match x0 with | [] => true | head :: tail => false then both (some ([], ())) (bif decide (0 + List.length x0 ≤ 1256584717458) then some ([] ++ x0, ()) else none) else bif decide (0 + List.length x0 ≤ 1256584717458) then some ([] ++ x0, ()) else none := by kernel_rfl
theorem B20_0_eq (x0 : ByteArray) (x1 : List (Ty.D r6)) (x2 x3 : Int) (x4 : ByteArray) (x5 x6 x7 : Int) (x8 x9 : ByteArray) (x10 x11 x12 : Int) (x13 : ByteArray) : B20_0 (x0, x1, x2, x3, x4, x5, x6, x7, x8, x9, x10, x11, x12, x13, ()) = bif decide (x3 < x2) then bif decide (Int.ofNat 0 ≤ x3) then Option.bind x1[Int.toNat x3]?
 fun (y : ByteArray × Int × Int × Int × ByteArray × ByteArray × Int × Int × Int × ByteArray × Unit) => bif ByteArray.toList y.1 == ByteArray.toList x0 then some (Sum.inr (Sum.inl (true, y.1, y.2.1, y.2.2.1, y.2.2.2.1, y.2.2.2.2.1, y.2.2.2.2.2.1, y.2.2.2.2.2.2.1, y.2.2.2.2.2.2.2.1, y.2.2.2.2.2.2.2.2.1, y.2.2.2.2.2.2.2.2.2.1, ()))) else some (Sum.inl
 (x0, x1, x2, IntKind.wrap IntKind.i64 (x3 + Int.ofNat 1), x4, x5, x6, x7, x8, x9, x10, x11, x12, x13, ())) else none else some (Sum.inr (Sum.inr (x4, x5, x6, x7, x8, x9, x10, x11, x12, x13, ()))) := by kernel_rfl
theorem F20_eq (x0 : List (Ty.D r6)) (x1 : ByteArray) : F20 (x0, x1, ()) = Option.bind (loop B20_0 (x1, x0, Int.ofNat (List.length x0), Int.ofNat 0, (lit []), Int.ofNat 0, Int.ofNat 0, Int.ofNat 0, (lit []), (lit []), Int.ofNat 0, Int.ofNat 0, Int.ofNat 0, (lit []), ())) fun (r : Bool × ByteArray × Int × Int × Int × ByteArray × ByteArray × Int × Int × Int × ByteArray × Unit ⊕
 ByteArray × Int × Int × Int × ByteArray × ByteArray × Int × Int × Int × ByteArray × Unit) => Sum.elim (fun (p : Bool × ByteArray × Int × Int × Int × ByteArray × ByteArray × Int × Int × Int × ByteArray × Unit) => some (p.2.1, p.2.2.1, p.2.2.2.1, p.2.2.2.2.1, p.2.2.2.2.2.1, p.2.2.2.2.2.2.1, p.2.2.2.2.2.2.2.1, p.2.2.2.2.2.2.2.2.1, p.2.2.2.2.2.2.2.2.2.1, p.2.2.2.2.2.2.2.2.2.2.1, p.1, ()))
 (fun (p : ByteArray × Int × Int × Int × ByteArray × ByteArray × Int × Int × Int × ByteArray × Unit) => some ((lit []), Int.ofNat 0, Int.ofNat 0, Int.ofNat 0, (lit []), (lit []), Int.ofNat 0, Int.ofNat 0, Int.ofNat 0, (lit []), false, ())) r := by kernel_rfl
theorem F33_eq (x0 x1 : Int) : F33 (x0, x1, ()) = bif !decide (x1 = Int.ofNat 0) then bif decide (Int.tmod x0 x1 < Int.ofNat 0) then some (IntKind.wrap IntKind.i64 (Int.tmod x0 x1 + x1), ()) else some (Int.tmod x0 x1, ()) else none := by kernel_rfl
theorem F34_eq  : F34 (()) = some ([(lit [97]), (lit [97, 47, 115, 117, 98]), (lit [98, 47, 99]), (lit [98, 47, 99, 47, 118, 50]), (lit [100]), (lit [101, 47, 118, 51]), (lit [101, 47, 118, 52])], ()) := by kernel_rfl
theorem F35_eq (x0 : Int) : F35 (x0, ()) = bif decide (Int.ofNat 0 ≤ x0) then Option.bind [Int.ofNat 1, Int.ofNat 1, Int.ofNat 1, Int.ofNat 2, Int.ofNat 1, Int.ofNat 3, Int.ofNat 4][Int.toNat x0]? fun (y : Int) => some (y, ()) else none := by kernel_rfl
theorem F38_eq (x0 x1 : Int) : F38 (x0, x1, ()) = bif decide (Int.ofNat 0 ≤ x0) && (decide (x0 ≤ IntKind.wrap IntKind.i64 (x0 + Int.ofNat 1)) && decide (IntKind.wrap IntKind.i64 (x0 + Int.ofNat 1) ≤ Int.ofNat 16)) then bif decide (Int.ofNat 0 ≤ x1) && (decide (x1 ≤ IntKind.wrap IntKind.i64 (x1 + Int.ofNat 1)) && decide (IntKind.wrap IntKind.i64 (x1 + Int.ofNat 1) ≤ Int.ofNat 16)) then bif fitsS
 (ByteArray.extract (lit [48, 49, 50, 51, 52, 53, 54, 55, 56, 57, 97, 98, 99, 100, 101, 102]) (Int.toNat x0) (Int.toNat (IntKind.wrap IntKind.i64 (x0 + Int.ofNat 1)))) (ByteArray.extract (lit [48, 49, 50, 51, 52, 53, 54, 55, 56, 57, 97, 98, 99, 100, 101, 102]) (Int.toNat x1) (Int.toNat (IntKind.wrap IntKind.i64 (x1 + Int.ofNat 1)))) then bif decide (Int.ofNat 0 ≤ IntKind.wrap IntKind.i64
 (Int.ofNat 10 + Int.tmod (IntKind.wrap IntKind.i64 (x0 + x1)) (Int.ofNat 9))) && decide (IntKind.wrap IntKind.i64 (Int.ofNat 10 + Int.tmod (IntKind.wrap IntKind.i64 (x0 + x1)) (Int.ofNat 9)) ≤ Int.ofNat 20) then bif fitsS (ByteArray.extract (lit [48, 49, 50, 51, 52, 53, 54, 55, 56, 57, 97, 98, 99, 100, 101, 102]) (Int.toNat x0) (Int.toNat (IntKind.wrap IntKind.i64 (x0 + Int.ofNat 1))) ++
 ByteArray.extract (lit [48, 49, 50, 51, 52, 53, 54, 55, 56, 57, 97, 98, 99, 100, 101, 102]) (Int.toNat x1) (Int.toNat (IntKind.wrap IntKind.i64 (x1 + Int.ofNat 1)))) (ByteArray.extract (lit [48, 48, 49, 49, 50, 50, 51, 51, 52, 52, 53, 53, 54, 54, 55, 55, 56, 56, 57, 57]) 0 (Int.toNat (IntKind.wrap IntKind.i64 (Int.ofNat 10 + Int.tmod (IntKind.wrap IntKind.i64 (x0 + x1)) (Int.ofNat 9))))) then
 some (ByteArray.extract (lit [48, 49, 50, 51, 52, 53, 54, 55, 56, 57, 97, 98, 99, 100, 101, 102]) (Int.toNat x0) (Int.toNat (IntKind.wrap IntKind.i64 (x0 + Int.ofNat 1))) ++ ByteArray.extract (lit [48, 49, 50, 51, 52, 53, 54, 55, 56, 57, 97, 98, 99, 100, 101, 102]) (Int.toNat x1) (Int.toNat (IntKind.wrap IntKind.i64 (x1 + Int.ofNat 1))) ++ ByteArray.extract
 (lit [48, 48, 49, 49, 50, 50, 51, 51, 52, 52, 53, 53, 54, 54, 55, 55, 56, 56, 57, 57]) 0 (Int.toNat (IntKind.wrap IntKind.i64 (Int.ofNat 10 + Int.tmod (IntKind.wrap IntKind.i64 (x0 + x1)) (Int.ofNat 9)))), ()) else none else none else none else none else none := by kernel_rfl
theorem FX37_eq (X : Shape.D sh37 → Option (Shape.D out37)) (x0 : Int) : FX37 X (x0, ()) = bif decide (x0 ≥ Int.ofNat 10) then Option.bind (X (IntKind.wrap IntKind.i64 (Int.tdiv x0 (Int.ofNat 10)), ())) fun (r : ByteArray × Unit) => Option.bind (X (Int.tmod x0 (Int.ofNat 10), ())) fun (r_1 : ByteArray × Unit) => bif fitsS r.1 r_1.1 then some (r.1 ++ r_1.1, ()) else none
 else some (bstr [IntKind.wrap IntKind.u8 (IntKind.wrap IntKind.i64 (Int.ofNat 48 + x0))], ()) := by kernel_rfl
theorem F85_eq (x0 : Int) : F85 (x0, ()) = bif decide (x0 ≥ Int.ofNat 48) then some (decide (x0 ≤ Int.ofNat 57), ()) else some (false, ()) := by kernel_rfl
theorem B79_0_eq (x0 : ByteArray) (x1 : Int) : B79_0 (x0, x1, ()) = bif decide (x1 < Int.ofNat (ByteArray.size x0)) then bif decide (Int.ofNat 0 ≤ x1) && decide (x1 < Int.ofNat (ByteArray.size x0)) then Option.bind (F85 (bt x0 x1, ())) fun (r : Bool × Unit) => bif !r.1 then bif decide (Int.ofNat 0 ≤ x1) && decide (x1 < Int.ofNat (ByteArray.size x0)) then
 bif decide (bt x0 x1 < Int.ofNat 97) then some (Sum.inr (Sum.inl (false, ()))) else bif decide (Int.ofNat 0 ≤ x1) && decide (x1 < Int.ofNat (ByteArray.size x0)) then bif decide (bt x0 x1 > Int.ofNat 102) then some (Sum.inr (Sum.inl (false, ()))) else some (Sum.inl (x0, IntKind.wrap IntKind.i64 (x1 + Int.ofNat 1), ())) else none else none
 else some (Sum.inl (x0, IntKind.wrap IntKind.i64 (x1 + Int.ofNat 1), ())) else none else some (Sum.inr (Sum.inr (x0, ()))) := by kernel_rfl
theorem F79_eq (x0 : ByteArray) : F79 (x0, ()) = Option.bind (loop B79_0 (x0, Int.ofNat 0, ())) fun (r : Bool × Unit ⊕ ByteArray × Unit) => Sum.elim (fun (p : Bool × Unit) => some (p.1, ())) (fun (p : ByteArray × Unit) => bif decide (Int.ofNat (ByteArray.size p.1) ≥ Int.ofNat 12) then some (decide (Int.ofNat (ByteArray.size p.1) ≤ Int.ofNat 40), ()) else some (false, ())) r := by kernel_rfl
theorem F126_eq (x0 : Int) : F126 (x0, ()) = bif decide (x0 ≥ Int.ofNat 97) then bif decide (x0 ≤ Int.ofNat 122) then some (true, ()) else bif decide (x0 ≥ Int.ofNat 65) then bif decide (x0 ≤ Int.ofNat 90) then some (true, ()) else some (x0 == Int.ofNat 45, ()) else some (x0 == Int.ofNat 45, ()) else bif decide (x0 ≥ Int.ofNat 65) then
 bif decide (x0 ≤ Int.ofNat 90) then some (true, ()) else some (x0 == Int.ofNat 45, ()) else some (x0 == Int.ofNat 45, ()) := by kernel_rfl
theorem B68_0_eq (x0 : ByteArray) (x1 : Int) : B68_0 (x0, x1, ()) = bif decide (x1 < Int.ofNat (ByteArray.size x0)) then bif decide (Int.ofNat 0 ≤ x1) && decide (x1 < Int.ofNat (ByteArray.size x0)) then Option.bind (F85 (bt x0 x1, ())) fun (r : Bool × Unit) => bif !r.1 then some (Sum.inr (Sum.inl (false, ()))) else some (Sum.inl (x0, IntKind.wrap IntKind.i64 (x1 + Int.ofNat 1), ())) else none
 else some (Sum.inr (Sum.inr (x0, ()))) := by kernel_rfl
theorem F68_eq (x0 : ByteArray) : F68 (x0, ()) = Option.bind (loop B68_0 (x0, Int.ofNat 0, ())) fun (r : Bool × Unit ⊕ ByteArray × Unit) => Sum.elim (fun (p : Bool × Unit) => some (p.1, ())) (fun (p : ByteArray × Unit) => some (!ByteArray.toList p.1 == [], ())) r := by kernel_rfl
theorem B108_0_eq (x0 : ByteArray) (x1 : Int) : B108_0 (x0, x1, ()) = bif decide (x1 < Int.ofNat (ByteArray.size x0)) then bif decide (Int.ofNat 0 ≤ x1) && decide (x1 < Int.ofNat (ByteArray.size x0)) then Option.bind (F85 (bt x0 x1, ())) fun (r : Bool × Unit) => bif !r.1 then bif decide (Int.ofNat 0 ≤ x1) && decide (x1 < Int.ofNat (ByteArray.size x0)) then
 Option.bind (F126 (bt x0 x1, ())) fun (r : Bool × Unit) => bif !r.1 then some (Sum.inr (Sum.inl (false, ()))) else some (Sum.inl (x0, IntKind.wrap IntKind.i64 (x1 + Int.ofNat 1), ())) else none else some (Sum.inl (x0, IntKind.wrap IntKind.i64 (x1 + Int.ofNat 1), ())) else none else some (Sum.inr (Sum.inr ())) := by kernel_rfl
theorem F108_eq (x0 : ByteArray) : F108 (x0, ()) = bif ByteArray.toList x0 == [] then some (false, ()) else Option.bind (F68 (x0, ())) fun (r : Bool × Unit) => bif r.1 then bif decide (Int.ofNat (ByteArray.size x0) > Int.ofNat 1) then bif decide (Int.ofNat 0 < Int.ofNat (ByteArray.size x0)) then bif bt x0 (Int.ofNat 0) == Int.ofNat 48 then some (false, ()) else
 Option.bind (loop B108_0 (x0, Int.ofNat 0, ())) fun (r : Bool × Unit ⊕ Unit) => Sum.elim (fun (p : Bool × Unit) => some (p.1, ())) (fun (p : Unit) => some (true, ())) r else none else Option.bind (loop B108_0 (x0, Int.ofNat 0, ())) fun (r : Bool × Unit ⊕ Unit) => Sum.elim (fun (p : Bool × Unit) => some (p.1, ())) (fun (p : Unit) => some (true, ())) r else
 Option.bind (loop B108_0 (x0, Int.ofNat 0, ())) fun (r : Bool × Unit ⊕ Unit) => Sum.elim (fun (p : Bool × Unit) => some (p.1, ())) (fun (p : Unit) => some (true, ())) r := by kernel_rfl
theorem B47_0_eq (x0 : ByteArray) (x1 x2 : Int) (x3 : List ByteArray) : B47_0 (x0, x1, x2, x3, ()) = bif decide (x2 ≤ Int.ofNat (ByteArray.size x0)) then bif x2 == Int.ofNat (ByteArray.size x0) then bif decide (Int.ofNat 0 ≤ x1) && (decide (x1 ≤ x2) && decide (x2 ≤ Int.ofNat (ByteArray.size x0))) then bif decide
 (List.length x3 + List.length [ByteArray.extract x0 (Int.toNat x1) (Int.toNat x2)] ≤ 8796093022208) then some (Sum.inl (x0, IntKind.wrap IntKind.i64 (x2 + Int.ofNat 1), IntKind.wrap IntKind.i64 (x2 + Int.ofNat 1), x3 ++ [ByteArray.extract x0 (Int.toNat x1) (Int.toNat x2)], ())) else none else none else bif decide (Int.ofNat 0 ≤ x2) && decide (x2 < Int.ofNat (ByteArray.size x0)) then
 bif bt x0 x2 == Int.ofNat 46 then bif decide (Int.ofNat 0 ≤ x1) && (decide (x1 ≤ x2) && decide (x2 ≤ Int.ofNat (ByteArray.size x0))) then bif decide (List.length x3 + List.length [ByteArray.extract x0 (Int.toNat x1) (Int.toNat x2)] ≤ 8796093022208) then some (Sum.inl (x0, IntKind.wrap IntKind.i64 (x2 + Int.ofNat 1), IntKind.wrap IntKind.i64 (x2 + Int.ofNat 1),
 x3 ++ [ByteArray.extract x0 (Int.toNat x1) (Int.toNat x2)], ())) else none else none else some (Sum.inl (x0, x1, IntKind.wrap IntKind.i64 (x2 + Int.ofNat 1), x3, ())) else none else some (Sum.inr (x3, ())) := by kernel_rfl
theorem F47_eq (x0 : ByteArray) : F47 (x0, ()) = Option.bind (loop B47_0 (x0, Int.ofNat 0, Int.ofNat 0, [], ())) fun (r : List ByteArray × Unit) => some (r.1, ()) := by kernel_rfl
theorem B80_0_eq (x0 : List ByteArray) (x1 : Int) : B80_0 (x0, x1, ()) = bif decide (x1 < Int.ofNat (List.length x0)) then bif decide (Int.ofNat 0 ≤ x1) then Option.bind x0[Int.toNat x1]? fun (y : ByteArray) => Option.bind (F108 (y, ())) fun (r : Bool × Unit) => bif !r.1 then some (Sum.inr (Sum.inl (false, ()))) else some (Sum.inl (x0, IntKind.wrap IntKind.i64 (x1 + Int.ofNat 1), ())) else none
 else some (Sum.inr (Sum.inr ())) := by kernel_rfl
theorem F80_eq (x0 x1 x2 : Int) (x3 : ByteArray) : F80 (x0, x1, x2, x3, ()) = bif decide (x0 < Int.ofNat 0) then some (false, ()) else bif decide (x1 < Int.ofNat 0) then some (false, ()) else bif decide (x2 < Int.ofNat 0) then some (false, ()) else bif decide ((bif decide (x2 > bif decide (x1 > x0) then x1 else x0) then x2 else bif decide (x1 > x0) then x1 else x0) > Int.ofNat 999999) then
 some (false, ()) else bif decide (Int.ofNat (ByteArray.size x3) > Int.ofNat 40) then some (false, ()) else bif ByteArray.toList x3 == [] then some (true, ()) else Option.bind (F47 (x3, ())) fun (r : List ByteArray × Unit) => Option.bind (loop B80_0 (r.1, Int.ofNat 0, ())) fun (r : Bool × Unit ⊕ Unit) => Sum.elim (fun (p : Bool × Unit) => some (p.1, ()))
 (fun (p : Unit) => some (true, ())) r := by kernel_rfl
theorem B60_0_eq (x0 : Bool) (x1 x2 : ByteArray) (x3 x4 x5 : Int) (x6 : ByteArray) (x7 x8 x9 : Int) (x10 : ByteArray) : B60_0 (x0, x1, x2, x3, x4, x5, x6, x7, x8, x9, x10, ()) = bif decide (Int.ofNat (ByteArray.size x2) < Int.ofNat 14) then bif fitsS (lit [48]) x2 then some (Sum.inl (x0, x1, (lit [48]) ++ x2, x3, x4, x5, x6, x7, x8, x9, x10, ())) else none
 else some (Sum.inr (x0, x1, x2, x3, x4, x5, x6, x7, x8, x9, x10, ())) := by kernel_rfl
theorem F60_eq (x0 : Bool) (x1 x2 x3 : Int) (x4 : ByteArray) (x5 : Int) (x6 : ByteArray) : F60 (x0, x1, x2, x3, x4, x5, x6, ()) = bif decide (x5 < Int.ofNat 0) then some (Int.ofNat 0, Int.ofNat 0, Int.ofNat 0, (lit []), false, ()) else bif decide (x5 > Int.ofNat 99999999999999) then some (Int.ofNat 0, Int.ofNat 0, Int.ofNat 0, (lit []), false, ()) else
 Option.bind (F79 (x6, ())) fun (r : Bool × Unit) => bif !r.1 then some (Int.ofNat 0, Int.ofNat 0, Int.ofNat 0, (lit []), false, ()) else Option.bind (F37 (x5, ())) fun (r : ByteArray × Unit) => Option.bind (loop B60_0 (x0, x6, r.1, x1, x2, x3, x4, Int.ofNat 0, Int.ofNat 0, Int.ofNat 0, (lit []), ())) fun (r :
 Bool × ByteArray × ByteArray × Int × Int × Int × ByteArray × Int × Int × Int × ByteArray × Unit) => bif fitsS r.2.2.1 (lit [45]) then bif decide (Int.ofNat 12 ≤ Int.ofNat (ByteArray.size r.2.1)) then bif fitsS (r.2.2.1 ++ (lit [45])) (ByteArray.extract r.2.1 0 12) then bif !r.1 then Option.bind (F80 (Int.ofNat 0, Int.ofNat 0, Int.ofNat 0, r.2.2.1 ++ (lit [45]) ++ ByteArray.extract r.2.1 0 12,
 ())) fun (r_1 : Bool × Unit) => bif !r_1.1 then some (Int.ofNat 0, Int.ofNat 0, Int.ofNat 0, (lit []), false, ()) else some (Int.ofNat 0, Int.ofNat 0, Int.ofNat 0, r.2.2.1 ++ (lit [45]) ++ ByteArray.extract r.2.1 0 12, true, ()) else bif ByteArray.toList r.2.2.2.2.2.2.1 == [] then bif fitsS (lit [48, 46]) (r.2.2.1 ++ (lit [45]) ++ ByteArray.extract r.2.1 0 12) then Option.bind (F80
 (r.2.2.2.1, r.2.2.2.2.1, IntKind.wrap IntKind.i64 (r.2.2.2.2.2.1 + Int.ofNat 1), (lit [48, 46]) ++ (r.2.2.1 ++ (lit [45]) ++ ByteArray.extract r.2.1 0 12), ())) fun (r_1 : Bool × Unit) => bif !r_1.1 then some (Int.ofNat 0, Int.ofNat 0, Int.ofNat 0, (lit []), false, ()) else some (r.2.2.2.1, r.2.2.2.2.1, IntKind.wrap IntKind.i64 (r.2.2.2.2.2.1 + Int.ofNat 1), (lit [48, 46]) ++ (r.2.2.1 ++
 (lit [45]) ++ ByteArray.extract r.2.1 0 12), true, ()) else none else bif fitsS r.2.2.2.2.2.2.1 (lit [46, 48, 46]) then bif fitsS (r.2.2.2.2.2.2.1 ++ (lit [46, 48, 46])) (r.2.2.1 ++ (lit [45]) ++ ByteArray.extract r.2.1 0 12) then Option.bind (F80 (r.2.2.2.1, r.2.2.2.2.1, r.2.2.2.2.2.1, r.2.2.2.2.2.2.1 ++ (lit [46, 48, 46]) ++ (r.2.2.1 ++ (lit [45]) ++ ByteArray.extract r.2.1 0 12), ()))
 fun (r_1 : Bool × Unit) => bif !r_1.1 then some (Int.ofNat 0, Int.ofNat 0, Int.ofNat 0, (lit []), false, ()) else some (r.2.2.2.1, r.2.2.2.2.1, r.2.2.2.2.2.1, r.2.2.2.2.2.2.1 ++ (lit [46, 48, 46]) ++ (r.2.2.1 ++ (lit [45]) ++ ByteArray.extract r.2.1 0 12), true, ()) else none else none else none else none else none := by kernel_rfl
theorem F36_eq (x0 : Int) : F36 (x0, ()) = Option.bind (F35 (x0, ())) fun (r : Int × Unit) => Option.bind (F38 (x0, Int.ofNat 9, ())) fun (r_1 : ByteArray × Unit) => Option.bind (F60 (true, r.1, Int.ofNat 1, Int.ofNat 0, (lit []), IntKind.wrap IntKind.i64 (Int.ofNat 20200101000000 + x0), r_1.1, ()))
 fun (r : Int × Int × Int × ByteArray × Bool × Unit) => some (r.1, r.2.1, r.2.2.1, r.2.2.2.1, ()) := by kernel_rfl
theorem B14_0_eq (x0 : List Int) (x1 : Bool) (x2 x3 x4 : Int) (x5 : ByteArray) (x6 x7 x8 : Int) (x9 : List (Ty.D r5)) (x10 : ByteArray) (x11 x12 x13 : Int) (x14 x15 x16 : ByteArray) (x17 : List (Ty.D r2)) (x18 : List (Ty.D r3)) (x19 : List (Ty.D r1)) (x20 : List (Ty.D r0)) : B14_0 (x0, x1, x2, x3, x4, x5, x6, x7, x8, x9, x10, x11, x12, x13, x14, x15, x16, x17, x18, x19, x20, ()) =
 bif decide (x8 < x2) then bif decide (Int.ofNat (List.length x0) > Int.ofNat 0) then bif !decide (Int.ofNat (List.length x0) = Int.ofNat 0) then bif decide (Int.ofNat 0 ≤ Int.tmod x3 (Int.ofNat (List.length x0))) then Option.bind x0[Int.toNat (Int.tmod x3 (Int.ofNat (List.length x0)))]? fun (y : Int) => Option.bind (F33 (IntKind.wrap IntKind.i64 (y + x3), Int.ofNat 1073741824, ()))
 fun (r : Int × Unit) => bif x8 == x4 then some (Sum.inl (x0, x1, x2, IntKind.wrap IntKind.i64 (x3 + Int.ofNat 1), x4, x5, x6, x7, IntKind.wrap IntKind.i64 (x8 + Int.ofNat 1), x9, x10, x11, x12, x13, x14, x15, x16, x17, x18, x19, x20, ())) else bif decide (Int.tmod r.1 (Int.ofNat 5) > Int.ofNat 1) then some (Sum.inl (x0, x1, x2, IntKind.wrap IntKind.i64 (x3 + Int.ofNat 1), x4, x5, x6, x7,
 IntKind.wrap IntKind.i64 (x8 + Int.ofNat 1), x9, x10, x11, x12, x13, x14, x15, x16, x17, x18, x19, x20, ())) else Option.bind (F35 (x8, ())) fun (r_1 : Int × Unit) => Option.bind (F36 (x8, ())) fun (r_2 : Int × Int × Int × ByteArray × Unit) => bif decide (Int.ofNat 0 ≤ Int.tmod (IntKind.wrap IntKind.i64 (Int.tdiv r.1 (Int.ofNat 5))) (Int.ofNat 5)) then Option.bind
 [(r_1.1, Int.ofNat 0, Int.ofNat 0, (lit []), ()), (r_1.1, Int.ofNat 1, Int.ofNat 0, (lit []), ()), (r_2.1, r_2.2.1, r_2.2.2.1, r_2.2.2.2.1, ()), (r_1.1, Int.ofNat 2, Int.ofNat 0, (lit [114, 99, 46, 49]), ()), (r_1.1, Int.ofNat 2, Int.ofNat 0, (lit []), ())][Int.toNat (Int.tmod (IntKind.wrap IntKind.i64 (Int.tdiv r.1 (Int.ofNat 5))) (Int.ofNat 5))]? fun (y : Int × Int × Int × ByteArray × Unit) =>
 Option.bind (F34 ()) fun (r : List ByteArray × Unit) => bif decide (Int.ofNat 0 ≤ x8) then Option.bind r.1[Int.toNat x8]? fun (y_1 : ByteArray) => bif decide (List.length x20 + List.length [(y_1, y.1, y.2.1, y.2.2.1, y.2.2.2.1, ())] ≤ 2513169434916) then some (Sum.inl (x0, x1, x2, IntKind.wrap IntKind.i64 (x3 + Int.ofNat 1), x4, x5, x6, x7,
 IntKind.wrap IntKind.i64 (x8 + Int.ofNat 1), x9, x10, x11, x12, x13, x14, x15, x16, x17, x18, x19, x20 ++ [(y_1, y.1, y.2.1, y.2.2.1, y.2.2.2.1, ())], ())) else none else none else none else none else none else some (Sum.inr (x0, x1, x2, x3, x4, x5, x6, x7, x9, x10, x11, x12, x13, x14, x15, x16, x17, x18, x19, x20, ())) else some
 (Sum.inr (x0, x1, x2, x3, x4, x5, x6, x7, x9, x10, x11, x12, x13, x14, x15, x16, x17, x18, x19, x20, ())) := by kernel_rfl
theorem B14_1_eq (x0 : List Int) (x1 : Bool) (x2 x3 x4 : Int) (x5 : ByteArray) (x6 x7 : Int) (x8 : List (Ty.D r5)) (x9 : ByteArray) (x10 : List (Ty.D r2)) (x11 : List (Ty.D r3)) (x12 : List (Ty.D r1)) : B14_1 (x0, x1, x2, x3, x4, x5, x6, x7, x8, x9, x10, x11, x12, ()) = bif decide (x7 < Int.ofNat (List.length x8)) then bif decide (Int.ofNat 0 ≤ x7) then
 Option.bind x8[Int.toNat x7]? fun (y : Int × Int × Int × ByteArray × Unit) => Option.bind (F37 (IntKind.wrap IntKind.i64 (IntKind.wrap IntKind.i64 (Int.ofNat 10 * x4) + x7), ())) fun (r : ByteArray × Unit) => bif fitsS (lit [104]) r.1 then bif fitsS ((lit [104]) ++ r.1) (lit [61]) then Option.bind (F37 (IntKind.wrap IntKind.i64 (IntKind.wrap IntKind.i64 (Int.ofNat 10 * x4) + x7), ()))
 fun (r_1 : ByteArray × Unit) => bif fitsS (lit [109]) r_1.1 then Option.bind (loop B14_0 (x0, x1, x2, x3, x4, x5, x6, x7, Int.ofNat 0, x8, x9, y.1, y.2.1, y.2.2.1, y.2.2.2.1, (lit [104]) ++ r.1 ++ (lit [61]), (lit [109]) ++ r_1.1, x10, x11, x12, [], ())) fun (r : List Int × Bool × Int × Int × Int × ByteArray × Int × Int × List (Int × Int × Int × ByteArray × Unit) × ByteArray × Int × Int × Int ×
 ByteArray × ByteArray × ByteArray × List (ByteArray × List (Int × Int × Int × ByteArray × List (ByteArray × Int × Int × Int × ByteArray × Unit) × ByteArray × ByteArray × Unit) × Unit) × List (ByteArray × ByteArray × Bool × Bool × Int × Int × Int × ByteArray × Int × Unit) × List (Int × Int × Int × ByteArray × List (ByteArray × Int × Int × Int × ByteArray × Unit) × ByteArray × ByteArray × Unit) ×
 List (ByteArray × Int × Int × Int × ByteArray × Unit) × Unit) => bif !r.2.1 then bif decide (Int.ofNat (List.length r.1) > Int.ofNat 0) then bif !decide (Int.ofNat (List.length r.1) = Int.ofNat 0) then bif decide (Int.ofNat 0 ≤ Int.tmod (IntKind.wrap IntKind.i64 (r.2.2.2.1 + r.2.2.2.2.2.2.2.1)) (Int.ofNat (List.length r.1))) then Option.bind r.1[Int.toNat
 (Int.tmod (IntKind.wrap IntKind.i64 (r.2.2.2.1 + r.2.2.2.2.2.2.2.1)) (Int.ofNat (List.length r.1)))]? fun (y : Int) => Option.bind (F33 (y, Int.ofNat 23, ())) fun (r_2 : Int × Unit) => bif r_2.1 == Int.ofNat 0 then bif decide (List.length r.2.2.2.2.2.2.2.2.2.2.2.2.2.2.2.2.2.2.1 + List.length [(r.2.2.2.2.2.2.2.2.2.2.1, r.2.2.2.2.2.2.2.2.2.2.2.1,
 r.2.2.2.2.2.2.2.2.2.2.2.2.1, r.2.2.2.2.2.2.2.2.2.2.2.2.2.1, r.2.2.2.2.2.2.2.2.2.2.2.2.2.2.2.2.2.2.2.1, (lit []), r.2.2.2.2.2.2.2.2.2.2.2.2.2.2.2.1, ())] ≤ 1466015503701) then some (Sum.inl (r.1, r.2.1, r.2.2.1, r.2.2.2.1, r.2.2.2.2.1, r.2.2.2.2.2.1, r.2.2.2.2.2.2.1, IntKind.wrap IntKind.i64 (r.2.2.2.2.2.2.2.1 + Int.ofNat 1), r.2.2.2.2.2.2.2.2.1, r.2.2.2.2.2.2.2.2.2.1,
 r.2.2.2.2.2.2.2.2.2.2.2.2.2.2.2.2.1, r.2.2.2.2.2.2.2.2.2.2.2.2.2.2.2.2.2.1, r.2.2.2.2.2.2.2.2.2.2.2.2.2.2.2.2.2.2.1 ++ [(r.2.2.2.2.2.2.2.2.2.2.1, r.2.2.2.2.2.2.2.2.2.2.2.1, r.2.2.2.2.2.2.2.2.2.2.2.2.1, r.2.2.2.2.2.2.2.2.2.2.2.2.2.1, r.2.2.2.2.2.2.2.2.2.2.2.2.2.2.2.2.2.2.2.1, (lit []), r.2.2.2.2.2.2.2.2.2.2.2.2.2.2.2.1, ())], ())) else none else bif decide
 (List.length r.2.2.2.2.2.2.2.2.2.2.2.2.2.2.2.2.2.2.1 + List.length [(r.2.2.2.2.2.2.2.2.2.2.1, r.2.2.2.2.2.2.2.2.2.2.2.1, r.2.2.2.2.2.2.2.2.2.2.2.2.1, r.2.2.2.2.2.2.2.2.2.2.2.2.2.1, r.2.2.2.2.2.2.2.2.2.2.2.2.2.2.2.2.2.2.2.1, r.2.2.2.2.2.2.2.2.2.2.2.2.2.2.1, r.2.2.2.2.2.2.2.2.2.2.2.2.2.2.2.1, ())] ≤ 1466015503701) then some (Sum.inl
 (r.1, r.2.1, r.2.2.1, r.2.2.2.1, r.2.2.2.2.1, r.2.2.2.2.2.1, r.2.2.2.2.2.2.1, IntKind.wrap IntKind.i64 (r.2.2.2.2.2.2.2.1 + Int.ofNat 1), r.2.2.2.2.2.2.2.2.1, r.2.2.2.2.2.2.2.2.2.1, r.2.2.2.2.2.2.2.2.2.2.2.2.2.2.2.2.1, r.2.2.2.2.2.2.2.2.2.2.2.2.2.2.2.2.2.1, r.2.2.2.2.2.2.2.2.2.2.2.2.2.2.2.2.2.2.1 ++ [(r.2.2.2.2.2.2.2.2.2.2.1, r.2.2.2.2.2.2.2.2.2.2.2.1,
 r.2.2.2.2.2.2.2.2.2.2.2.2.1, r.2.2.2.2.2.2.2.2.2.2.2.2.2.1, r.2.2.2.2.2.2.2.2.2.2.2.2.2.2.2.2.2.2.2.1, r.2.2.2.2.2.2.2.2.2.2.2.2.2.2.1, r.2.2.2.2.2.2.2.2.2.2.2.2.2.2.2.1, ())], ())) else none else none else none else bif decide (List.length r.2.2.2.2.2.2.2.2.2.2.2.2.2.2.2.2.2.2.1 + List.length [(r.2.2.2.2.2.2.2.2.2.2.1, r.2.2.2.2.2.2.2.2.2.2.2.1, r.2.2.2.2.2.2.2.2.2.2.2.2.1,
 r.2.2.2.2.2.2.2.2.2.2.2.2.2.1, r.2.2.2.2.2.2.2.2.2.2.2.2.2.2.2.2.2.2.2.1, r.2.2.2.2.2.2.2.2.2.2.2.2.2.2.1, r.2.2.2.2.2.2.2.2.2.2.2.2.2.2.2.1, ())] ≤ 1466015503701) then some (Sum.inl (r.1, r.2.1, r.2.2.1, r.2.2.2.1, r.2.2.2.2.1, r.2.2.2.2.2.1, r.2.2.2.2.2.2.1, IntKind.wrap IntKind.i64 (r.2.2.2.2.2.2.2.1 + Int.ofNat 1), r.2.2.2.2.2.2.2.2.1,
 r.2.2.2.2.2.2.2.2.2.1, r.2.2.2.2.2.2.2.2.2.2.2.2.2.2.2.2.1, r.2.2.2.2.2.2.2.2.2.2.2.2.2.2.2.2.2.1, r.2.2.2.2.2.2.2.2.2.2.2.2.2.2.2.2.2.2.1 ++ [(r.2.2.2.2.2.2.2.2.2.2.1, r.2.2.2.2.2.2.2.2.2.2.2.1, r.2.2.2.2.2.2.2.2.2.2.2.2.1, r.2.2.2.2.2.2.2.2.2.2.2.2.2.1, r.2.2.2.2.2.2.2.2.2.2.2.2.2.2.2.2.2.2.2.1, r.2.2.2.2.2.2.2.2.2.2.2.2.2.2.1, r.2.2.2.2.2.2.2.2.2.2.2.2.2.2.2.1, ())], ())) else none else bif
 decide (List.length r.2.2.2.2.2.2.2.2.2.2.2.2.2.2.2.2.2.2.1 + List.length [(r.2.2.2.2.2.2.2.2.2.2.1, r.2.2.2.2.2.2.2.2.2.2.2.1, r.2.2.2.2.2.2.2.2.2.2.2.2.1, r.2.2.2.2.2.2.2.2.2.2.2.2.2.1, r.2.2.2.2.2.2.2.2.2.2.2.2.2.2.2.2.2.2.2.1, r.2.2.2.2.2.2.2.2.2.2.2.2.2.2.1, r.2.2.2.2.2.2.2.2.2.2.2.2.2.2.2.1, ())] ≤ 1466015503701) then some (Sum.inl
 (r.1, r.2.1, r.2.2.1, r.2.2.2.1, r.2.2.2.2.1, r.2.2.2.2.2.1, r.2.2.2.2.2.2.1, IntKind.wrap IntKind.i64 (r.2.2.2.2.2.2.2.1 + Int.ofNat 1), r.2.2.2.2.2.2.2.2.1, r.2.2.2.2.2.2.2.2.2.1, r.2.2.2.2.2.2.2.2.2.2.2.2.2.2.2.2.1, r.2.2.2.2.2.2.2.2.2.2.2.2.2.2.2.2.2.1, r.2.2.2.2.2.2.2.2.2.2.2.2.2.2.2.2.2.2.1 ++ [(r.2.2.2.2.2.2.2.2.2.2.1, r.2.2.2.2.2.2.2.2.2.2.2.1, r.2.2.2.2.2.2.2.2.2.2.2.2.1,
 r.2.2.2.2.2.2.2.2.2.2.2.2.2.1, r.2.2.2.2.2.2.2.2.2.2.2.2.2.2.2.2.2.2.2.1, r.2.2.2.2.2.2.2.2.2.2.2.2.2.2.1, r.2.2.2.2.2.2.2.2.2.2.2.2.2.2.2.1, ())], ())) else none else none else none else none else none else some (Sum.inr (x0, x1, x2, x3, x4, x5, x6, x9, x10, x11, x12, ())) := by kernel_rfl
theorem B14_2_eq (x0 : List Int) (x1 : Bool) (x2 x3 x4 : Int) (x5 : List (Ty.D r2)) (x6 : List (Ty.D r3)) : B14_2 (x0, x1, x2, x3, x4, x5, x6, ()) = bif decide (x4 < x2) then Option.bind (F34 ()) fun (r : List ByteArray × Unit) => bif decide (Int.ofNat 0 ≤ x4) then Option.bind r.1[Int.toNat x4]? fun (y : ByteArray) => Option.bind (F35 (x4, ())) fun (r : Int × Unit) =>
 Option.bind (F36 (x4, ())) fun (r_1 : Int × Int × Int × ByteArray × Unit) => bif r.1 == Int.ofNat 1 then bif decide (1 + List.length [(r.1, Int.ofNat 0, Int.ofNat 0, (lit []), ()), (r.1, Int.ofNat 1, Int.ofNat 0, (lit []), ()), (r_1.1, r_1.2.1, r_1.2.2.1, r_1.2.2.2.1, ()), (r.1, Int.ofNat 2, Int.ofNat 0, (lit [114, 99, 46, 49]), ()), (r.1, Int.ofNat 2, Int.ofNat 0, (lit []), ())] ≤
 3518437208883) then Option.bind (loop B14_1 (x0, x1, x2, x3, x4, y, r.1, Int.ofNat 0, [(Int.ofNat 0, Int.ofNat 5, Int.ofNat 0, (lit []), ())] ++ [(r.1, Int.ofNat 0, Int.ofNat 0, (lit []), ()), (r.1, Int.ofNat 1, Int.ofNat 0, (lit []), ()), (r_1.1, r_1.2.1, r_1.2.2.1, r_1.2.2.2.1, ()), (r.1, Int.ofNat 2, Int.ofNat 0, (lit [114, 99, 46, 49]), ()), (r.1, Int.ofNat 2, Int.ofNat 0, (lit []), ())],
 y, x5, x6, [], ())) fun (r : List Int × Bool × Int × Int × Int × ByteArray × Int × ByteArray × List (ByteArray × List (Int × Int × Int × ByteArray × List (ByteArray × Int × Int × Int × ByteArray × Unit) × ByteArray × ByteArray × Unit) × Unit) × List (ByteArray × ByteArray × Bool × Bool × Int × Int × Int × ByteArray × Int × Unit) × List (Int × Int × Int × ByteArray ×
 List (ByteArray × Int × Int × Int × ByteArray × Unit) × ByteArray × ByteArray × Unit) × Unit) => bif decide (List.length r.2.2.2.2.2.2.2.2.1 + List.length [(r.2.2.2.2.2.2.2.1, r.2.2.2.2.2.2.2.2.2.2.1, ())] ≤ 3518437208883) then Option.bind (F38 (r.2.2.2.2.1, Int.ofNat 1, ())) fun (r_2 : ByteArray × Unit) => Option.bind (F38 (r.2.2.2.2.1, Int.ofNat 2, ())) fun (r_3 : ByteArray × Unit) =>
 Option.bind (F38 (r.2.2.2.2.1, Int.ofNat 3, ())) fun (r_4 : ByteArray × Unit) => Option.bind (F38 (r.2.2.2.2.1, Int.ofNat 8, ())) fun (r_5 : ByteArray × Unit) => Option.bind (F38 (r.2.2.2.2.1, Int.ofNat 9, ())) fun (r_6 : ByteArray × Unit) => bif decide (List.length r.2.2.2.2.2.2.2.2.2.1 + List.length [(r.2.2.2.2.2.1, r_2.1, true, false, r.2.2.2.2.2.2.1, Int.ofNat 0,
 Int.ofNat 0, (lit []), Int.ofNat 0, ()), (r.2.2.2.2.2.1, r_3.1, true, false, r.2.2.2.2.2.2.1, Int.ofNat 1, Int.ofNat 0, (lit []), Int.ofNat 0, ()), (r.2.2.2.2.2.1, r_4.1, true, false, r.2.2.2.2.2.2.1, Int.ofNat 2, Int.ofNat 0, (lit []), Int.ofNat 0, ()), (r.2.2.2.2.2.1, r_5.1, false, false, Int.ofNat 0, Int.ofNat 0, Int.ofNat 0, (lit []),
 IntKind.wrap IntKind.i64 (Int.ofNat 20190101000000 + r.2.2.2.2.1), ()), (r.2.2.2.2.2.1, r_6.1, false, true, r.2.2.2.2.2.2.1, Int.ofNat 1, Int.ofNat 0, (lit []), IntKind.wrap IntKind.i64 (Int.ofNat 20200101000000 + r.2.2.2.2.1), ())] ≤ 1599289640401) then some (Sum.inl (r.1, r.2.1, r.2.2.1, r.2.2.2.1, IntKind.wrap IntKind.i64 (r.2.2.2.2.1 + Int.ofNat 1), r.2.2.2.2.2.2.2.2.1 ++
 [(r.2.2.2.2.2.2.2.1, r.2.2.2.2.2.2.2.2.2.2.1, ())], r.2.2.2.2.2.2.2.2.2.1 ++ [(r.2.2.2.2.2.1, r_2.1, true, false, r.2.2.2.2.2.2.1, Int.ofNat 0, Int.ofNat 0, (lit []), Int.ofNat 0, ()), (r.2.2.2.2.2.1, r_3.1, true, false, r.2.2.2.2.2.2.1, Int.ofNat 1, Int.ofNat 0, (lit []), Int.ofNat 0, ()), (r.2.2.2.2.2.1, r_4.1, true, false, r.2.2.2.2.2.2.1, Int.ofNat 2, Int.ofNat 0, (lit []), Int.ofNat 0, ()),
 (r.2.2.2.2.2.1, r_5.1, false, false, Int.ofNat 0, Int.ofNat 0, Int.ofNat 0, (lit []), IntKind.wrap IntKind.i64 (Int.ofNat 20190101000000 + r.2.2.2.2.1), ()), (r.2.2.2.2.2.1, r_6.1, false, true, r.2.2.2.2.2.2.1, Int.ofNat 1, Int.ofNat 0, (lit []), IntKind.wrap IntKind.i64 (Int.ofNat 20200101000000 + r.2.2.2.2.1), ())], ())) else none else none else none else Option.bind (loop B14_1
 (x0, x1, x2, x3, x4, y, r.1, Int.ofNat 0, [(r.1, Int.ofNat 0, Int.ofNat 0, (lit []), ()), (r.1, Int.ofNat 1, Int.ofNat 0, (lit []), ()), (r_1.1, r_1.2.1, r_1.2.2.1, r_1.2.2.2.1, ()), (r.1, Int.ofNat 2, Int.ofNat 0, (lit [114, 99, 46, 49]), ()), (r.1, Int.ofNat 2, Int.ofNat 0, (lit []), ())], y, x5, x6, [], ())) fun (r : List Int × Bool × Int × Int × Int × ByteArray × Int × ByteArray × List
 (ByteArray × List (Int × Int × Int × ByteArray × List (ByteArray × Int × Int × Int × ByteArray × Unit) × ByteArray × ByteArray × Unit) × Unit) × List (ByteArray × ByteArray × Bool × Bool × Int × Int × Int × ByteArray × Int × Unit) × List (Int × Int × Int × ByteArray × List (ByteArray × Int × Int × Int × ByteArray × Unit) × ByteArray × ByteArray × Unit) × Unit) => bif decide
 (List.length r.2.2.2.2.2.2.2.2.1 + List.length [(r.2.2.2.2.2.2.2.1, r.2.2.2.2.2.2.2.2.2.2.1, ())] ≤ 3518437208883) then Option.bind (F38 (r.2.2.2.2.1, Int.ofNat 1, ())) fun (r_2 : ByteArray × Unit) => Option.bind (F38 (r.2.2.2.2.1, Int.ofNat 2, ())) fun (r_3 : ByteArray × Unit) => Option.bind (F38 (r.2.2.2.2.1, Int.ofNat 3, ())) fun (r_4 : ByteArray × Unit) =>
 Option.bind (F38 (r.2.2.2.2.1, Int.ofNat 8, ())) fun (r_5 : ByteArray × Unit) => Option.bind (F38 (r.2.2.2.2.1, Int.ofNat 9, ())) fun (r_6 : ByteArray × Unit) => bif decide (List.length r.2.2.2.2.2.2.2.2.2.1 + List.length [(r.2.2.2.2.2.1, r_2.1, true, false, r.2.2.2.2.2.2.1, Int.ofNat 0, Int.ofNat 0, (lit []), Int.ofNat 0, ()), (r.2.2.2.2.2.1, r_3.1, true, false, r.2.2.2.2.2.2.1, Int.ofNat 1,
 Int.ofNat 0, (lit []), Int.ofNat 0, ()), (r.2.2.2.2.2.1, r_4.1, true, false, r.2.2.2.2.2.2.1, Int.ofNat 2, Int.ofNat 0, (lit []), Int.ofNat 0, ()), (r.2.2.2.2.2.1, r_5.1, false, false, Int.ofNat 0, Int.ofNat 0, Int.ofNat 0, (lit []), IntKind.wrap IntKind.i64 (Int.ofNat 20190101000000 + r.2.2.2.2.1), ()), (r.2.2.2.2.2.1, r_6.1, false, true, r.2.2.2.2.2.2.1, Int.ofNat 1, Int.ofNat 0, (lit []),
 IntKind.wrap IntKind.i64 (Int.ofNat 20200101000000 + r.2.2.2.2.1), ())] ≤ 1599289640401) then some (Sum.inl (r.1, r.2.1, r.2.2.1, r.2.2.2.1, IntKind.wrap IntKind.i64 (r.2.2.2.2.1 + Int.ofNat 1), r.2.2.2.2.2.2.2.2.1 ++ [(r.2.2.2.2.2.2.2.1, r.2.2.2.2.2.2.2.2.2.2.1, ())], r.2.2.2.2.2.2.2.2.2.1 ++ [(r.2.2.2.2.2.1, r_2.1, true, false, r.2.2.2.2.2.2.1, Int.ofNat 0, Int.ofNat 0,
 (lit []), Int.ofNat 0, ()), (r.2.2.2.2.2.1, r_3.1, true, false, r.2.2.2.2.2.2.1, Int.ofNat 1, Int.ofNat 0, (lit []), Int.ofNat 0, ()), (r.2.2.2.2.2.1, r_4.1, true, false, r.2.2.2.2.2.2.1, Int.ofNat 2, Int.ofNat 0, (lit []), Int.ofNat 0, ()), (r.2.2.2.2.2.1, r_5.1, false, false, Int.ofNat 0, Int.ofNat 0, Int.ofNat 0, (lit []), IntKind.wrap IntKind.i64 (Int.ofNat 20190101000000 + r.2.2.2.2.1),
 ()), (r.2.2.2.2.2.1, r_6.1, false, true, r.2.2.2.2.2.2.1, Int.ofNat 1, Int.ofNat 0, (lit []), IntKind.wrap IntKind.i64 (Int.ofNat 20200101000000 + r.2.2.2.2.1), ())], ())) else none else none else none else some (Sum.inr (x5, x6, ())) := by kernel_rfl
theorem F14_eq (x0 : Int) (x1 : List Int) (x2 : Bool) : F14 (x0, x1, x2, ()) = Option.bind (F33 (x0, Int.ofNat 7, ())) fun (r : Int × Unit) => Option.bind (loop B14_2 (x1, x2, IntKind.wrap IntKind.i64 (Int.ofNat 1 + r.1), Int.ofNat 0, Int.ofNat 0, [], [], ())) fun (r : List (ByteArray × List (Int × Int × Int × ByteArray ×
 List (ByteArray × Int × Int × Int × ByteArray × Unit) × ByteArray × ByteArray × Unit) × Unit) × List (ByteArray × ByteArray × Bool × Bool × Int × Int × Int × ByteArray × Int × Unit) × Unit) => some (r.1, r.2.1, ()) := by kernel_rfl
theorem F16_eq (x0 x1 : Int) : F16 (x0, x1, ()) = bif !decide (x1 = Int.ofNat 0) then bif decide (Int.tmod x0 x1 < Int.ofNat 0) then some (IntKind.wrap IntKind.i64 (Int.tmod x0 x1 + x1), ()) else some (Int.tmod x0 x1, ()) else none := by kernel_rfl
theorem B24_0_eq (x0 : Int) (x1 : ByteArray) (x2 x3 : List (Ty.D r0)) (x4 : List (Ty.D r4)) (x5 x6 : ByteArray) (x7 x8 : List (Ty.D r0)) : B24_0 (x0, x1, x2, x3, x4, x5, x6, x7, x8, ()) = bif decide (x0 < Int.ofNat (List.length x2)) then bif decide (Int.ofNat 0 ≤ x0) then Option.bind x2[Int.toNat x0]? fun (y : ByteArray × Int × Int × Int × ByteArray × Unit) =>
 bif !ByteArray.toList y.1 == ByteArray.toList x1 then bif Int.ofNat (List.length x8) == Int.ofNat 0 then bif decide (Int.ofNat 0 ≤ x0) then Option.bind x2[Int.toNat x0]? fun (y : ByteArray × Int × Int × Int × ByteArray × Unit) => bif decide (List.length x8 + List.length [(y.1, y.2.1, y.2.2.1, y.2.2.2.1, y.2.2.2.2.1, ())] ≤ 2513169434916) then some (Sum.inl
 (IntKind.wrap IntKind.i64 (x0 + Int.ofNat 1), x1, x2, x3, x4, x5, x6, x7, x8 ++ [(y.1, y.2.1, y.2.2.1, y.2.2.2.1, y.2.2.2.2.1, ())], ())) else none else none else bif decide (Int.ofNat 0 ≤ IntKind.wrap IntKind.i64 (Int.ofNat (List.length x8) - Int.ofNat 1)) then Option.bind x8[Int.toNat (IntKind.wrap IntKind.i64 (Int.ofNat (List.length x8) - Int.ofNat 1))]?
 fun (y : ByteArray × Int × Int × Int × ByteArray × Unit) => bif decide (Int.ofNat 0 ≤ x0) then Option.bind x2[Int.toNat x0]? fun (y_1 : ByteArray × Int × Int × Int × ByteArray × Unit) => bif !ByteArray.toList y.1 == ByteArray.toList y_1.1 then bif decide (Int.ofNat 0 ≤ x0) then Option.bind x2[Int.toNat x0]? fun (y : ByteArray × Int × Int × Int × ByteArray × Unit) => bif decide (List.length x8 +
 List.length [(y.1, y.2.1, y.2.2.1, y.2.2.2.1, y.2.2.2.2.1, ())] ≤ 2513169434916) then some (Sum.inl (IntKind.wrap IntKind.i64 (x0 + Int.ofNat 1), x1, x2, x3, x4, x5, x6, x7, x8 ++ [(y.1, y.2.1, y.2.2.1, y.2.2.2.1, y.2.2.2.2.1, ())], ())) else none else none else some (Sum.inl (IntKind.wrap IntKind.i64 (x0 + Int.ofNat 1), x1, x2, x3, x4, x5, x6, x7, x8, ())) else none else none
 else some (Sum.inl (IntKind.wrap IntKind.i64 (x0 + Int.ofNat 1), x1, x2, x3, x4, x5, x6, x7, x8, ())) else none else some (Sum.inr (x1, x2, x3, x4, x5, x6, x7, x8, ())) := by kernel_rfl
theorem B24_1_eq (x0 : Int) (x1 : ByteArray) (x2 x3 : List (Ty.D r0)) (x4 : List (Ty.D r4)) (x5 x6 : ByteArray) (x7 x8 : List (Ty.D r0)) (x9 : List (Ty.D r4)) : B24_1 (x0, x1, x2, x3, x4, x5, x6, x7, x8, x9, ()) = bif decide (x0 < Int.ofNat (List.length x4)) then bif decide (Int.ofNat 0 ≤ x0) then
 Option.bind x4[Int.toNat x0]? fun (y : ByteArray × ByteArray × Int × Int × Int × ByteArray × Unit) => bif !ByteArray.toList y.1 == ByteArray.toList x1 then bif Int.ofNat (List.length x9) == Int.ofNat 0 then bif decide (Int.ofNat 0 ≤ x0) then Option.bind x4[Int.toNat x0]? fun (y : ByteArray × ByteArray × Int × Int × Int × ByteArray × Unit) => bif decide (List.length x9 +
 List.length [(y.1, y.2.1, y.2.2.1, y.2.2.2.1, y.2.2.2.2.1, y.2.2.2.2.2.1, ())] ≤ 1954687338268) then some (Sum.inl (IntKind.wrap IntKind.i64 (x0 + Int.ofNat 1), x1, x2, x3, x4, x5, x6, x7, x8, x9 ++ [(y.1, y.2.1, y.2.2.1, y.2.2.2.1, y.2.2.2.2.1, y.2.2.2.2.2.1, ())], ())) else none else none else bif decide (Int.ofNat 0 ≤ IntKind.wrap IntKind.i64 (Int.ofNat (List.length x9) - Int.ofNat 1)) then
 Option.bind x9[Int.toNat (IntKind.wrap IntKind.i64 (Int.ofNat (List.length x9) - Int.ofNat 1))]? fun (y : ByteArray × ByteArray × Int × Int × Int × ByteArray × Unit) => bif decide (Int.ofNat 0 ≤ x0) then Option.bind x4[Int.toNat x0]? fun (y_1 : ByteArray × ByteArray × Int × Int × Int × ByteArray × Unit) => bif !ByteArray.toList y.1 == ByteArray.toList y_1.1 then
 bif decide (Int.ofNat 0 ≤ x0) then Option.bind x4[Int.toNat x0]? fun (y : ByteArray × ByteArray × Int × Int × Int × ByteArray × Unit) => bif decide (List.length x9 + List.length [(y.1, y.2.1, y.2.2.1, y.2.2.2.1, y.2.2.2.2.1, y.2.2.2.2.2.1, ())] ≤ 1954687338268) then some (Sum.inl (IntKind.wrap IntKind.i64 (x0 + Int.ofNat 1), x1, x2, x3, x4, x5, x6, x7, x8,
 x9 ++ [(y.1, y.2.1, y.2.2.1, y.2.2.2.1, y.2.2.2.2.1, y.2.2.2.2.2.1, ())], ())) else none else none else some (Sum.inl (IntKind.wrap IntKind.i64 (x0 + Int.ofNat 1), x1, x2, x3, x4, x5, x6, x7, x8, x9, ())) else none else none else some (Sum.inl (IntKind.wrap IntKind.i64 (x0 + Int.ofNat 1), x1, x2, x3, x4, x5, x6, x7, x8, x9, ())) else none
 else some (Sum.inr (x5, x6, x7, x8, x9, ())) := by kernel_rfl
theorem F24_eq (x0 : ByteArray) (x1 x2 : List (Ty.D r0)) (x3 : List (Ty.D r4)) : F24 (x0, x1, x2, x3, ()) = Option.bind (loop B24_0 (Int.ofNat 0, x0, x1, x2, x3, (lit []), x0, x2, [], ())) fun (r : ByteArray × List (ByteArray × Int × Int × Int × ByteArray × Unit) × List (ByteArray × Int × Int × Int × ByteArray × Unit) × List (ByteArray × ByteArray × Int × Int × Int × ByteArray × Unit) ×
 ByteArray × ByteArray × List (ByteArray × Int × Int × Int × ByteArray × Unit) × List (ByteArray × Int × Int × Int × ByteArray × Unit) × Unit) => Option.bind (loop B24_1 (Int.ofNat 0, r.1, r.2.1, r.2.2.1, r.2.2.2.1, r.2.2.2.2.1, r.2.2.2.2.2.1, r.2.2.2.2.2.2.1, r.2.2.2.2.2.2.2.1, [], ())) fun (r : ByteArray × ByteArray × List (ByteArray × Int × Int × Int × ByteArray × Unit) ×
 List (ByteArray × Int × Int × Int × ByteArray × Unit) × List (ByteArray × ByteArray × Int × Int × Int × ByteArray × Unit) × Unit) => some (r.2.1, r.2.2.2.1, r.2.2.1, r.2.2.2.2.1, ()) := by kernel_rfl
theorem F46_eq (x0 x1 : Int) : F46 (x0, x1, ()) = bif decide (x0 < x1) then some (Int.negSucc 0, ()) else bif decide (x0 > x1) then some (Int.ofNat 1, ()) else some (Int.ofNat 0, ()) := by kernel_rfl
theorem F48_eq (x0 x1 : ByteArray) : F48 (x0, x1, ()) = Option.bind (F68 (x0, ())) fun (r : Bool × Unit) => Option.bind (F68 (x1, ())) fun (r_1 : Bool × Unit) => bif r.1 then bif r_1.1 then bif !Int.ofNat (ByteArray.size x0) == Int.ofNat (ByteArray.size x1) then Option.bind (F46 (Int.ofNat (ByteArray.size x0), Int.ofNat (ByteArray.size x1), ())) fun (r : Int × Unit) => some (r.1, ()) else
 bif !r.1 == r_1.1 then bif r.1 then some (Int.negSucc 0, ()) else some (Int.ofNat 1, ()) else bif Op.bytesLess (ByteArray.toList x0) (ByteArray.toList x1) then some (Int.negSucc 0, ()) else bif !(Op.bytesLess (ByteArray.toList x0) (ByteArray.toList x1) || ByteArray.toList x0 == ByteArray.toList x1) then some (Int.ofNat 1, ()) else some (Int.ofNat 0, ()) else
 bif !r.1 == r_1.1 then bif r.1 then some (Int.negSucc 0, ()) else some (Int.ofNat 1, ()) else bif Op.bytesLess (ByteArray.toList x0) (ByteArray.toList x1) then some (Int.negSucc 0, ()) else bif !(Op.bytesLess (ByteArray.toList x0) (ByteArray.toList x1) || ByteArray.toList x0 == ByteArray.toList x1) then some (Int.ofNat 1, ()) else some (Int.ofNat 0, ()) else
 bif !r.1 == r_1.1 then bif r.1 then some (Int.negSucc 0, ()) else some (Int.ofNat 1, ()) else bif Op.bytesLess (ByteArray.toList x0) (ByteArray.toList x1) then some (Int.negSucc 0, ()) else bif !(Op.bytesLess (ByteArray.toList x0) (ByteArray.toList x1) || ByteArray.toList x0 == ByteArray.toList x1) then some (Int.ofNat 1, ()) else some (Int.ofNat 0, ()) := by kernel_rfl
theorem B21_0_eq (x0 x1 x2 x3 : Int) (x4 : ByteArray) (x5 x6 x7 : Int) (x8 : ByteArray) (x9 : List Int) : B21_0 (x0, x1, x2, x3, x4, x5, x6, x7, x8, x9, ()) = bif decide (x0 < Int.ofNat 3) then bif decide (Int.ofNat 0 ≤ x0) then Option.bind x9[Int.toNat x0]? fun (y : Int) => bif !y == Int.ofNat 0 then bif decide (Int.ofNat 0 ≤ x0) then
 Option.bind x9[Int.toNat x0]? fun (y : Int) => some (Sum.inr (Sum.inl (y, ()))) else none else some (Sum.inl (IntKind.wrap IntKind.i64 (x0 + Int.ofNat 1), x1, x2, x3, x4, x5, x6, x7, x8, x9, ())) else none else some (Sum.inr (Sum.inr (x1, x2, x3, x4, x5, x6, x7, x8, ()))) := by kernel_rfl
theorem B21_1_eq (x0 x1 : List ByteArray) (x2 : Int) : B21_1 (x0, x1, x2, ()) = bif decide (x2 < Int.ofNat (List.length x0)) then bif decide (x2 < Int.ofNat (List.length x1)) then bif decide (Int.ofNat 0 ≤ x2) then Option.bind x0[Int.toNat x2]? fun (y : ByteArray) => bif decide (Int.ofNat 0 ≤ x2) then Option.bind x1[Int.toNat x2]? fun (y_1 : ByteArray) =>
 Option.bind (F48 (y, y_1, ())) fun (r : Int × Unit) => bif !r.1 == Int.ofNat 0 then some (Sum.inr (Sum.inl (r.1, ()))) else some (Sum.inl (x0, x1, IntKind.wrap IntKind.i64 (x2 + Int.ofNat 1), ())) else none else none else some (Sum.inr (Sum.inr (x0, x1, ()))) else some (Sum.inr (Sum.inr (x0, x1, ()))) := by kernel_rfl
theorem F21_eq (x0 x1 x2 : Int) (x3 : ByteArray) (x4 x5 x6 : Int) (x7 : ByteArray) : F21 (x0, x1, x2, x3, x4, x5, x6, x7, ()) = Option.bind (F46 (x0, x4, ())) fun (r : Int × Unit) => Option.bind (F46 (x1, x5, ())) fun (r_1 : Int × Unit) => Option.bind (F46 (x2, x6, ())) fun (r_2 : Int × Unit) => Option.bind (loop B21_0 (Int.ofNat 0, x0, x1, x2, x3, x4, x5, x6, x7, [r.1, r_1.1, r_2.1], ()))
 fun (r : Int × Unit ⊕ Int × Int × Int × ByteArray × Int × Int × Int × ByteArray × Unit) => Sum.elim (fun (p : Int × Unit) => some (p.1, ())) (fun (p : Int × Int × Int × ByteArray × Int × Int × Int × ByteArray × Unit) => bif ByteArray.toList p.2.2.2.1 == [] then Option.bind (F46 (Int.ofNat (ByteArray.size p.2.2.2.2.2.2.2.1), Int.ofNat (ByteArray.size p.2.2.2.1), ())) fun (r : Int × Unit) => some
 (IntKind.wrap IntKind.i64 (r.1 * bif decide (IntKind.wrap IntKind.i64 (Int.ofNat (ByteArray.size p.2.2.2.1) + Int.ofNat (ByteArray.size p.2.2.2.2.2.2.2.1)) < Int.ofNat 1) then IntKind.wrap IntKind.i64 (Int.ofNat (ByteArray.size p.2.2.2.1) + Int.ofNat (ByteArray.size p.2.2.2.2.2.2.2.1)) else Int.ofNat 1), ()) else bif ByteArray.toList p.2.2.2.2.2.2.2.1 == [] then Option.bind (F46
 (Int.ofNat (ByteArray.size p.2.2.2.2.2.2.2.1), Int.ofNat (ByteArray.size p.2.2.2.1), ())) fun (r : Int × Unit) => some (IntKind.wrap IntKind.i64 (r.1 * bif decide (IntKind.wrap IntKind.i64 (Int.ofNat (ByteArray.size p.2.2.2.1) + Int.ofNat (ByteArray.size p.2.2.2.2.2.2.2.1)) < Int.ofNat 1) then IntKind.wrap IntKind.i64
 (Int.ofNat (ByteArray.size p.2.2.2.1) + Int.ofNat (ByteArray.size p.2.2.2.2.2.2.2.1)) else Int.ofNat 1), ()) else Option.bind (F47 (p.2.2.2.1, ())) fun (r : List ByteArray × Unit) => Option.bind (F47 (p.2.2.2.2.2.2.2.1, ())) fun (r_3 : List ByteArray × Unit) => Option.bind (loop B21_1 (r.1, r_3.1, Int.ofNat 0, ())) fun (r : Int × Unit ⊕ List ByteArray × List ByteArray × Unit) =>
 Sum.elim (fun (p : Int × Unit) => some (p.1, ())) (fun (p : List ByteArray × List ByteArray × Unit) => Option.bind (F46 (Int.ofNat (List.length p.1), Int.ofNat (List.length p.2.1), ())) fun (r : Int × Unit) => some (r.1, ())) r) r := by kernel_rfl
theorem F40_eq (x0 : ByteArray) (x1 x2 x3 : Int) (x4 x5 : ByteArray) (x6 x7 x8 : Int) (x9 : ByteArray) : F40 (x0, x1, x2, x3, x4, x5, x6, x7, x8, x9, ()) = bif Op.bytesLess (ByteArray.toList x0) (ByteArray.toList x5) then some (true, ()) else bif ByteArray.toList x0 == ByteArray.toList x5 then Option.bind (F21 (x1, x2, x3, x4, x6, x7, x8, x9, ())) fun (r : Int × Unit) =>
 some (decide (r.1 < Int.ofNat 0), ()) else some (false, ()) := by kernel_rfl
theorem B17_0_eq (x0 : List (Ty.D r0)) (x1 x2 : Int) (x3 : List (Ty.D r0)) : B17_0 (x0, x1, x2, x3, ()) = bif decide (x2 > Int.ofNat 0) then bif decide (Int.ofNat 0 ≤ x1) then Option.bind x0[Int.toNat x1]? fun (y : ByteArray × Int × Int × Int × ByteArray × Unit) => bif decide (Int.ofNat 0 ≤ IntKind.wrap IntKind.i64 (x2 - Int.ofNat 1)) then
 Option.bind x3[Int.toNat (IntKind.wrap IntKind.i64 (x2 - Int.ofNat 1))]? fun (y_1 : ByteArray × Int × Int × Int × ByteArray × Unit) => Option.bind (F40 (y.1, y.2.1, y.2.2.1, y.2.2.2.1, y.2.2.2.2.1, y_1.1, y_1.2.1, y_1.2.2.1, y_1.2.2.2.1, y_1.2.2.2.2.1, ())) fun (r : Bool × Unit) => bif r.1 then some (Sum.inl (x0, x1, IntKind.wrap IntKind.i64 (x2 - Int.ofNat 1), x3, ()))
 else some (Sum.inr (x0, x1, x2, x3, ())) else none else none else some (Sum.inr (x0, x1, x2, x3, ())) := by kernel_rfl
theorem B17_1_eq (x0 : List (Ty.D r0)) (x1 : Int) (x2 : List (Ty.D r0)) : B17_1 (x0, x1, x2, ()) = bif decide (x1 < Int.ofNat (List.length x0)) then Option.bind (loop B17_0 (x0, x1, Int.ofNat (List.length x2), x2, ())) fun (r : List (ByteArray × Int × Int × Int × ByteArray × Unit) × Int × Int × List (ByteArray × Int × Int × Int × ByteArray × Unit) × Unit) => bif r.2.2.1 == Int.ofNat 0 then
 bif decide (Int.ofNat 0 ≤ r.2.2.1) && decide (r.2.2.1 ≤ Int.ofNat (List.length r.2.2.2.1)) then bif decide (0 + List.length (List.drop 0 (List.take (Int.toNat r.2.2.1) r.2.2.2.1)) ≤ 2513169434916) then bif decide (Int.ofNat 0 ≤ r.2.1) then Option.bind r.1[Int.toNat r.2.1]? fun (y : ByteArray × Int × Int × Int × ByteArray × Unit) => bif decide
 (List.length ([] ++ List.drop 0 (List.take (Int.toNat r.2.2.1) r.2.2.2.1)) + List.length [(y.1, y.2.1, y.2.2.1, y.2.2.2.1, y.2.2.2.2.1, ())] ≤ 2513169434916) then bif decide (Int.ofNat 0 ≤ r.2.2.1) && (decide (r.2.2.1 ≤ Int.ofNat (List.length r.2.2.2.1)) && decide (Int.ofNat (List.length r.2.2.2.1) ≤ Int.ofNat (List.length r.2.2.2.1))) then bif decide (List.length
 ([] ++ List.drop 0 (List.take (Int.toNat r.2.2.1) r.2.2.2.1) ++ [(y.1, y.2.1, y.2.2.1, y.2.2.2.1, y.2.2.2.2.1, ())]) + List.length (List.drop (Int.toNat r.2.2.1) (List.take (Int.toNat (Int.ofNat (List.length r.2.2.2.1))) r.2.2.2.1)) ≤ 2513169434916) then some (Sum.inl (r.1, IntKind.wrap IntKind.i64 (r.2.1 + Int.ofNat 1), [] ++ List.drop 0 (List.take (Int.toNat r.2.2.1) r.2.2.2.1) ++
 [(y.1, y.2.1, y.2.2.1, y.2.2.2.1, y.2.2.2.2.1, ())] ++ List.drop (Int.toNat r.2.2.1) (List.take (Int.toNat (Int.ofNat (List.length r.2.2.2.1))) r.2.2.2.1), ())) else none else none else none else none else none else none else bif decide (Int.ofNat 0 ≤ IntKind.wrap IntKind.i64 (r.2.2.1 - Int.ofNat 1)) then Option.bind r.2.2.2.1[Int.toNat (IntKind.wrap IntKind.i64 (r.2.2.1 - Int.ofNat 1))]?
 fun (y : ByteArray × Int × Int × Int × ByteArray × Unit) => bif decide (Int.ofNat 0 ≤ r.2.1) then Option.bind r.1[Int.toNat r.2.1]? fun (y_1 : ByteArray × Int × Int × Int × ByteArray × Unit) => bif !(ByteArray.toList y.1 == ByteArray.toList y_1.1 && (y.2.1 == y_1.2.1 && (y.2.2.1 == y_1.2.2.1 && (y.2.2.2.1 == y_1.2.2.2.1 && ByteArray.toList y.2.2.2.2.1 == ByteArray.toList y_1.2.2.2.2.1)))) then
 bif decide (Int.ofNat 0 ≤ r.2.2.1) && decide (r.2.2.1 ≤ Int.ofNat (List.length r.2.2.2.1)) then bif decide (0 + List.length (List.drop 0 (List.take (Int.toNat r.2.2.1) r.2.2.2.1)) ≤ 2513169434916) then bif decide (Int.ofNat 0 ≤ r.2.1) then Option.bind r.1[Int.toNat r.2.1]? fun (y : ByteArray × Int × Int × Int × ByteArray × Unit) => bif decide
 (List.length ([] ++ List.drop 0 (List.take (Int.toNat r.2.2.1) r.2.2.2.1)) + List.length [(y.1, y.2.1, y.2.2.1, y.2.2.2.1, y.2.2.2.2.1, ())] ≤ 2513169434916) then bif decide (Int.ofNat 0 ≤ r.2.2.1) && (decide (r.2.2.1 ≤ Int.ofNat (List.length r.2.2.2.1)) && decide (Int.ofNat (List.length r.2.2.2.1) ≤ Int.ofNat (List.length r.2.2.2.1))) then bif decide (List.length
 ([] ++ List.drop 0 (List.take (Int.toNat r.2.2.1) r.2.2.2.1) ++ [(y.1, y.2.1, y.2.2.1, y.2.2.2.1, y.2.2.2.2.1, ())]) + List.length (List.drop (Int.toNat r.2.2.1) (List.take (Int.toNat (Int.ofNat (List.length r.2.2.2.1))) r.2.2.2.1)) ≤ 2513169434916) then some (Sum.inl (r.1, IntKind.wrap IntKind.i64 (r.2.1 + Int.ofNat 1), [] ++ List.drop 0 (List.take (Int.toNat r.2.2.1) r.2.2.2.1) ++
 [(y.1, y.2.1, y.2.2.1, y.2.2.2.1, y.2.2.2.2.1, ())] ++ List.drop (Int.toNat r.2.2.1) (List.take (Int.toNat (Int.ofNat (List.length r.2.2.2.1))) r.2.2.2.1), ())) else none else none else none else none else none else none else some (Sum.inl (r.1, IntKind.wrap IntKind.i64 (r.2.1 + Int.ofNat 1), r.2.2.2.1, ())) else none else none else some (Sum.inr (x2, ())) := by kernel_rfl
theorem F17_eq (x0 : List (Ty.D r0)) : F17 (x0, ()) = Option.bind (loop B17_1 (x0, Int.ofNat 0, [], ())) fun (r : List (ByteArray × Int × Int × Int × ByteArray × Unit) × Unit) => some (r.1, ()) := by kernel_rfl
theorem F81_eq (x0 x1 : ByteArray) (x2 x3 x4 : Int) (x5 x6 x7 : ByteArray) (x8 x9 x10 : Int) (x11 : ByteArray) : F81 (x0, x1, x2, x3, x4, x5, x6, x7, x8, x9, x10, x11, ()) = bif !ByteArray.toList x0 == ByteArray.toList x6 then some (Op.bytesLess (ByteArray.toList x0) (ByteArray.toList x6), ()) else bif Op.bytesLess (ByteArray.toList x1) (ByteArray.toList x7) then some (true, ()) else
 bif ByteArray.toList x1 == ByteArray.toList x7 then Option.bind (F21 (x2, x3, x4, x5, x8, x9, x10, x11, ())) fun (r : Int × Unit) => some (decide (r.1 < Int.ofNat 0), ()) else some (false, ()) := by kernel_rfl
theorem B61_0_eq (x0 : List (Ty.D r4)) (x1 x2 : Int) (x3 : List (Ty.D r4)) : B61_0 (x0, x1, x2, x3, ()) = bif decide (x2 > Int.ofNat 0) then bif decide (Int.ofNat 0 ≤ x1) then Option.bind x0[Int.toNat x1]? fun (y : ByteArray × ByteArray × Int × Int × Int × ByteArray × Unit) => bif decide (Int.ofNat 0 ≤ IntKind.wrap IntKind.i64 (x2 - Int.ofNat 1)) then
 Option.bind x3[Int.toNat (IntKind.wrap IntKind.i64 (x2 - Int.ofNat 1))]? fun (y_1 : ByteArray × ByteArray × Int × Int × Int × ByteArray × Unit) => Option.bind (F81 (y.1, y.2.1, y.2.2.1, y.2.2.2.1, y.2.2.2.2.1, y.2.2.2.2.2.1, y_1.1, y_1.2.1, y_1.2.2.1, y_1.2.2.2.1, y_1.2.2.2.2.1, y_1.2.2.2.2.2.1, ())) fun (r : Bool × Unit) =>
 bif r.1 then some (Sum.inl (x0, x1, IntKind.wrap IntKind.i64 (x2 - Int.ofNat 1), x3, ())) else some (Sum.inr (x0, x1, x2, x3, ())) else none else none else some (Sum.inr (x0, x1, x2, x3, ())) := by kernel_rfl
theorem B61_1_eq (x0 : List (Ty.D r4)) (x1 : Int) (x2 : List (Ty.D r4)) : B61_1 (x0, x1, x2, ()) = bif decide (x1 < Int.ofNat (List.length x0)) then Option.bind (loop B61_0 (x0, x1, Int.ofNat (List.length x2), x2, ())) fun (r : List (ByteArray × ByteArray × Int × Int × Int × ByteArray × Unit) × Int × Int × List (ByteArray × ByteArray × Int × Int × Int × ByteArray × Unit) × Unit) =>
 bif r.2.2.1 == Int.ofNat 0 then bif decide (Int.ofNat 0 ≤ r.2.2.1) && decide (r.2.2.1 ≤ Int.ofNat (List.length r.2.2.2.1)) then bif decide (0 + List.length (List.drop 0 (List.take (Int.toNat r.2.2.1) r.2.2.2.1)) ≤ 1954687338268) then bif decide (Int.ofNat 0 ≤ r.2.1) then Option.bind r.1[Int.toNat r.2.1]? fun (y : ByteArray × ByteArray × Int × Int × Int × ByteArray × Unit) => bif decide
 (List.length ([] ++ List.drop 0 (List.take (Int.toNat r.2.2.1) r.2.2.2.1)) + List.length [(y.1, y.2.1, y.2.2.1, y.2.2.2.1, y.2.2.2.2.1, y.2.2.2.2.2.1, ())] ≤ 1954687338268) then bif decide (Int.ofNat 0 ≤ r.2.2.1) && (decide (r.2.2.1 ≤ Int.ofNat (List.length r.2.2.2.1)) && decide (Int.ofNat (List.length r.2.2.2.1) ≤ Int.ofNat (List.length r.2.2.2.1))) then bif decide (List.length
 ([] ++ List.drop 0 (List.take (Int.toNat r.2.2.1) r.2.2.2.1) ++ [(y.1, y.2.1, y.2.2.1, y.2.2.2.1, y.2.2.2.2.1, y.2.2.2.2.2.1, ())]) + List.length (List.drop (Int.toNat r.2.2.1) (List.take (Int.toNat (Int.ofNat (List.length r.2.2.2.1))) r.2.2.2.1)) ≤ 1954687338268) then some (Sum.inl (r.1, IntKind.wrap IntKind.i64 (r.2.1 + Int.ofNat 1),
 [] ++ List.drop 0 (List.take (Int.toNat r.2.2.1) r.2.2.2.1) ++ [(y.1, y.2.1, y.2.2.1, y.2.2.2.1, y.2.2.2.2.1, y.2.2.2.2.2.1, ())] ++ List.drop (Int.toNat r.2.2.1) (List.take (Int.toNat (Int.ofNat (List.length r.2.2.2.1))) r.2.2.2.1), ())) else none else none else none else none else none else none else bif decide (Int.ofNat 0 ≤ IntKind.wrap IntKind.i64 (r.2.2.1 - Int.ofNat 1)) then
 Option.bind r.2.2.2.1[Int.toNat (IntKind.wrap IntKind.i64 (r.2.2.1 - Int.ofNat 1))]? fun (y : ByteArray × ByteArray × Int × Int × Int × ByteArray × Unit) => bif decide (Int.ofNat 0 ≤ r.2.1) then Option.bind r.1[Int.toNat r.2.1]? fun (y_1 : ByteArray × ByteArray × Int × Int × Int × ByteArray × Unit) => bif !(ByteArray.toList y.1 == ByteArray.toList y_1.1 &&
 (ByteArray.toList y.2.1 == ByteArray.toList y_1.2.1 && (y.2.2.1 == y_1.2.2.1 && (y.2.2.2.1 == y_1.2.2.2.1 && (y.2.2.2.2.1 == y_1.2.2.2.2.1 && ByteArray.toList y.2.2.2.2.2.1 == ByteArray.toList y_1.2.2.2.2.2.1))))) then bif decide (Int.ofNat 0 ≤ r.2.2.1) && decide (r.2.2.1 ≤ Int.ofNat (List.length r.2.2.2.1)) then bif decide
 (0 + List.length (List.drop 0 (List.take (Int.toNat r.2.2.1) r.2.2.2.1)) ≤ 1954687338268) then bif decide (Int.ofNat 0 ≤ r.2.1) then Option.bind r.1[Int.toNat r.2.1]? fun (y : ByteArray × ByteArray × Int × Int × Int × ByteArray × Unit) => bif decide (List.length ([] ++ List.drop 0 (List.take (Int.toNat r.2.2.1) r.2.2.2.1)) + List.length
 [(y.1, y.2.1, y.2.2.1, y.2.2.2.1, y.2.2.2.2.1, y.2.2.2.2.2.1, ())] ≤ 1954687338268) then bif decide (Int.ofNat 0 ≤ r.2.2.1) && (decide (r.2.2.1 ≤ Int.ofNat (List.length r.2.2.2.1)) && decide (Int.ofNat (List.length r.2.2.2.1) ≤ Int.ofNat (List.length r.2.2.2.1))) then bif decide (List.length ([] ++ List.drop 0 (List.take (Int.toNat r.2.2.1) r.2.2.2.1) ++
 [(y.1, y.2.1, y.2.2.1, y.2.2.2.1, y.2.2.2.2.1, y.2.2.2.2.2.1, ())]) + List.length (List.drop (Int.toNat r.2.2.1) (List.take (Int.toNat (Int.ofNat (List.length r.2.2.2.1))) r.2.2.2.1)) ≤ 1954687338268) then some (Sum.inl (r.1, IntKind.wrap IntKind.i64 (r.2.1 + Int.ofNat 1), [] ++ List.drop 0 (List.take (Int.toNat r.2.2.1) r.2.2.2.1) ++
 [(y.1, y.2.1, y.2.2.1, y.2.2.2.1, y.2.2.2.2.1, y.2.2.2.2.2.1, ())] ++ List.drop (Int.toNat r.2.2.1) (List.take (Int.toNat (Int.ofNat (List.length r.2.2.2.1))) r.2.2.2.1), ())) else none else none else none else none else none else none else some (Sum.inl (r.1, IntKind.wrap IntKind.i64 (r.2.1 + Int.ofNat 1), r.2.2.2.1, ())) else none else none else some (Sum.inr (x2, ())) := by kernel_rfl
theorem F61_eq (x0 : List (Ty.D r4)) : F61 (x0, ()) = Option.bind (loop B61_1 (x0, Int.ofNat 0, [], ())) fun (r : List (ByteArray × ByteArray × Int × Int × Int × ByteArray × Unit) × Unit) => some (r.1, ()) := by kernel_rfl
theorem F39_eq (x0 : ByteArray) (x1 x2 : List (Ty.D r0)) (x3 : List (Ty.D r4)) : F39 (x0, x1, x2, x3, ()) = Option.bind (F17 (x1, ())) fun (r : List (ByteArray × Int × Int × Int × ByteArray × Unit) × Unit) => Option.bind (F17 (x2, ())) fun (r_1 : List (ByteArray × Int × Int × Int × ByteArray × Unit) × Unit) => Option.bind (F61 (x3, ()))
 fun (r_2 : List (ByteArray × ByteArray × Int × Int × Int × ByteArray × Unit) × Unit) => some (x0, r.1, r_1.1, r_2.1, ()) := by kernel_rfl
theorem B15_0_eq (x0 : List Int) (x1 : Int) (x2 : List (Ty.D r2)) (x3 : List (Ty.D r3)) (x4 x5 : ByteArray) (x6 x7 : List (Ty.D r0)) (x8 : List (Ty.D r4)) : B15_0 (x0, x1, x2, x3, x4, x5, x6, x7, x8, ()) = bif decide (x1 < Int.ofNat (List.length x0)) then bif decide (x1 < Int.ofNat 12) then bif decide (Int.ofNat 0 ≤ x1) then Option.bind x0[Int.toNat x1]? fun (y : Int) =>
 Option.bind (F16 (y, Int.ofNat 1099511627776, ())) fun (r : Int × Unit) => bif !decide (Int.ofNat (List.length x2) = Int.ofNat 0) then bif decide (Int.ofNat 0 ≤ Int.tmod r.1 (Int.ofNat (List.length x2))) then Option.bind x2[Int.toNat (Int.tmod r.1 (Int.ofNat (List.length x2)))]? fun (y : ByteArray × List (Int × Int × Int × ByteArray × List (ByteArray × Int × Int × Int × ByteArray × Unit) ×
 ByteArray × ByteArray × Unit) × Unit) => bif !decide (Int.ofNat (List.length y.2.1) = Int.ofNat 0) then bif decide (Int.ofNat 0 ≤ Int.tmod (IntKind.wrap IntKind.i64 (Int.tdiv r.1 (Int.ofNat 7))) (Int.ofNat (List.length y.2.1))) then Option.bind y.2.1[Int.toNat (Int.tmod (IntKind.wrap IntKind.i64 (Int.tdiv r.1 (Int.ofNat 7))) (Int.ofNat (List.length y.2.1)))]? fun (y_1 : Int × Int × Int ×
 ByteArray × List (ByteArray × Int × Int × Int × ByteArray × Unit) × ByteArray × ByteArray × Unit) => bif Int.tmod (IntKind.wrap IntKind.i64 (Int.tdiv (IntKind.wrap IntKind.i64 (Int.tdiv r.1 (Int.ofNat 7))) (Int.ofNat 7))) (Int.ofNat 29) == Int.ofNat 0 then bif Int.tmod (IntKind.wrap IntKind.i64 (Int.tdiv (IntKind.wrap IntKind.i64 (Int.tdiv (IntKind.wrap IntKind.i64 (Int.tdiv r.1 (Int.ofNat 7)))
 (Int.ofNat 7))) (Int.ofNat 29))) (Int.ofNat 6) == Int.ofNat 0 then bif decide (List.length x7 + List.length [(y.1, y_1.1, y_1.2.1, Int.ofNat 7, y_1.2.2.2.1, ())] ≤ 2513169434916) then some (Sum.inl (x0, IntKind.wrap IntKind.i64 (x1 + Int.ofNat 1), x2, x3, x4, x5, x6, x7 ++ [(y.1, y_1.1, y_1.2.1, Int.ofNat 7, y_1.2.2.2.1, ())], x8, ())) else none else bif Int.tmod (IntKind.wrap IntKind.i64
 (Int.tdiv (IntKind.wrap IntKind.i64 (Int.tdiv (IntKind.wrap IntKind.i64 (Int.tdiv r.1 (Int.ofNat 7))) (Int.ofNat 7))) (Int.ofNat 29))) (Int.ofNat 6) == Int.ofNat 1 then bif !decide (Int.ofNat (List.length x2) = Int.ofNat 0) then bif decide (Int.ofNat 0 ≤ Int.tmod (IntKind.wrap IntKind.i64 (Int.tdiv (IntKind.wrap IntKind.i64 (Int.tdiv (IntKind.wrap IntKind.i64 (Int.tdiv r.1 (Int.ofNat 7)))
 (Int.ofNat 7))) (Int.ofNat 200))) (Int.ofNat (List.length x2))) then Option.bind x2[Int.toNat (Int.tmod (IntKind.wrap IntKind.i64 (Int.tdiv (IntKind.wrap IntKind.i64 (Int.tdiv (IntKind.wrap IntKind.i64 (Int.tdiv r.1 (Int.ofNat 7))) (Int.ofNat 7))) (Int.ofNat 200))) (Int.ofNat (List.length x2)))]? fun (y_2 : ByteArray × List (Int × Int × Int × ByteArray ×
 List (ByteArray × Int × Int × Int × ByteArray × Unit) × ByteArray × ByteArray × Unit) × Unit) => bif decide (List.length x8 + List.length [(y_2.1, y.1, y_1.1, y_1.2.1, Int.ofNat 7, y_1.2.2.2.1, ())] ≤ 1954687338268) then some (Sum.inl (x0, IntKind.wrap IntKind.i64 (x1 + Int.ofNat 1), x2, x3, x4, x5, x6, x7, x8 ++ [(y_2.1, y.1, y_1.1, y_1.2.1, Int.ofNat 7, y_1.2.2.2.1, ())], ())) else none
 else none else none else bif Int.tmod (IntKind.wrap IntKind.i64 (Int.tdiv (IntKind.wrap IntKind.i64 (Int.tdiv (IntKind.wrap IntKind.i64 (Int.tdiv r.1 (Int.ofNat 7))) (Int.ofNat 7))) (Int.ofNat 29))) (Int.ofNat 6) == Int.ofNat 2 then bif Int.tmod (IntKind.wrap IntKind.i64 (Int.tdiv (IntKind.wrap IntKind.i64 (Int.tdiv (IntKind.wrap IntKind.i64 (Int.tdiv r.1 (Int.ofNat 7))) (Int.ofNat 7)))
 (Int.ofNat 200))) (Int.ofNat 11) == Int.ofNat 0 then bif decide (List.length x6 + List.length [(y.1, y_1.1, y_1.2.1, Int.ofNat 7, y_1.2.2.2.1, ())] ≤ 2513169434916) then some (Sum.inl (x0, IntKind.wrap IntKind.i64 (x1 + Int.ofNat 1), x2, x3, x4, y.1, x6 ++ [(y.1, y_1.1, y_1.2.1, Int.ofNat 7, y_1.2.2.2.1, ())], x7, x8, ())) else none else bif decide (List.length x6 +
 List.length [(y.1, y_1.1, y_1.2.1, Int.ofNat 7, y_1.2.2.2.1, ())] ≤ 2513169434916) then some (Sum.inl (x0, IntKind.wrap IntKind.i64 (x1 + Int.ofNat 1), x2, x3, x4, x5, x6 ++ [(y.1, y_1.1, y_1.2.1, Int.ofNat 7, y_1.2.2.2.1, ())], x7, x8, ())) else none else bif decide (List.length x6 + List.length [(y.1, y_1.1, y_1.2.1, Int.ofNat 7, y_1.2.2.2.1, ())] ≤ 2513169434916) then some (Sum.inl
 (x0, IntKind.wrap IntKind.i64 (x1 + Int.ofNat 1), x2, x3, x4, x5, x6 ++ [(y.1, y_1.1, y_1.2.1, Int.ofNat 7, y_1.2.2.2.1, ())], x7, x8, ())) else none else bif Int.tmod (IntKind.wrap IntKind.i64 (Int.tdiv (IntKind.wrap IntKind.i64 (Int.tdiv (IntKind.wrap IntKind.i64 (Int.tdiv r.1 (Int.ofNat 7))) (Int.ofNat 7))) (Int.ofNat 29))) (Int.ofNat 6) == Int.ofNat 0 then bif decide (List.length x7 +
 List.length [(y.1, y_1.1, y_1.2.1, y_1.2.2.1, y_1.2.2.2.1, ())] ≤ 2513169434916) then some (Sum.inl (x0, IntKind.wrap IntKind.i64 (x1 + Int.ofNat 1), x2, x3, x4, x5, x6, x7 ++ [(y.1, y_1.1, y_1.2.1, y_1.2.2.1, y_1.2.2.2.1, ())], x8, ())) else none else bif Int.tmod (IntKind.wrap IntKind.i64 (Int.tdiv (IntKind.wrap IntKind.i64 (Int.tdiv (IntKind.wrap IntKind.i64 (Int.tdiv r.1 (Int.ofNat 7)))
 (Int.ofNat 7))) (Int.ofNat 29))) (Int.ofNat 6) == Int.ofNat 1 then bif !decide (Int.ofNat (List.length x2) = Int.ofNat 0) then bif decide (Int.ofNat 0 ≤ Int.tmod (IntKind.wrap IntKind.i64 (Int.tdiv (IntKind.wrap IntKind.i64 (Int.tdiv (IntKind.wrap IntKind.i64 (Int.tdiv r.1 (Int.ofNat 7))) (Int.ofNat 7))) (Int.ofNat 200))) (Int.ofNat (List.length x2))) then Option.bind x2[Int.toNat (Int.tmod
 (IntKind.wrap IntKind.i64 (Int.tdiv (IntKind.wrap IntKind.i64 (Int.tdiv (IntKind.wrap IntKind.i64 (Int.tdiv r.1 (Int.ofNat 7))) (Int.ofNat 7))) (Int.ofNat 200))) (Int.ofNat (List.length x2)))]? fun (y_2 : ByteArray × List (Int × Int × Int × ByteArray × List (ByteArray × Int × Int × Int × ByteArray × Unit) × ByteArray × ByteArray × Unit) × Unit) => bif decide (List.length x8 + List.length
 [(y_2.1, y.1, y_1.1, y_1.2.1, y_1.2.2.1, y_1.2.2.2.1, ())] ≤ 1954687338268) then some (Sum.inl (x0, IntKind.wrap IntKind.i64 (x1 + Int.ofNat 1), x2, x3, x4, x5, x6, x7, x8 ++ [(y_2.1, y.1, y_1.1, y_1.2.1, y_1.2.2.1, y_1.2.2.2.1, ())], ())) else none else none else none else bif Int.tmod (IntKind.wrap IntKind.i64 (Int.tdiv (IntKind.wrap IntKind.i64
 (Int.tdiv (IntKind.wrap IntKind.i64 (Int.tdiv r.1 (Int.ofNat 7))) (Int.ofNat 7))) (Int.ofNat 29))) (Int.ofNat 6) == Int.ofNat 2 then bif Int.tmod (IntKind.wrap IntKind.i64 (Int.tdiv (IntKind.wrap IntKind.i64 (Int.tdiv (IntKind.wrap IntKind.i64 (Int.tdiv r.1 (Int.ofNat 7))) (Int.ofNat 7))) (Int.ofNat 200))) (Int.ofNat 11) == Int.ofNat 0 then bif decide (List.length x6 +
 List.length [(y.1, y_1.1, y_1.2.1, y_1.2.2.1, y_1.2.2.2.1, ())] ≤ 2513169434916) then some (Sum.inl (x0, IntKind.wrap IntKind.i64 (x1 + Int.ofNat 1), x2, x3, x4, y.1, x6 ++ [(y.1, y_1.1, y_1.2.1, y_1.2.2.1, y_1.2.2.2.1, ())], x7, x8, ())) else none else bif decide (List.length x6 + List.length [(y.1, y_1.1, y_1.2.1, y_1.2.2.1, y_1.2.2.2.1, ())] ≤ 2513169434916) then some (Sum.inl
 (x0, IntKind.wrap IntKind.i64 (x1 + Int.ofNat 1), x2, x3, x4, x5, x6 ++ [(y.1, y_1.1, y_1.2.1, y_1.2.2.1, y_1.2.2.2.1, ())], x7, x8, ())) else none else bif decide (List.length x6 + List.length [(y.1, y_1.1, y_1.2.1, y_1.2.2.1, y_1.2.2.2.1, ())] ≤ 2513169434916) then some (Sum.inl (x0, IntKind.wrap IntKind.i64 (x1 + Int.ofNat 1), x2, x3, x4, x5,
 x6 ++ [(y.1, y_1.1, y_1.2.1, y_1.2.2.1, y_1.2.2.2.1, ())], x7, x8, ())) else none else none else none else none else none else none else some (Sum.inr (x4, x5, x6, x7, x8, ())) else some (Sum.inr (x4, x5, x6, x7, x8, ())) := by kernel_rfl
theorem F15_eq (x0 : List (Ty.D r2)) (x1 : List (Ty.D r3)) (x2 : List Int) : F15 (x0, x1, x2, ()) = Option.bind (loop B15_0 (x2, Int.ofNat 0, x0, x1, (lit []), (lit [109, 97, 105, 110]), [], [], [], ())) fun (r : ByteArray × ByteArray × List (ByteArray × Int × Int × Int × ByteArray × Unit) × List (ByteArray × Int × Int × Int × ByteArray × Unit) ×
 List (ByteArray × ByteArray × Int × Int × Int × ByteArray × Unit) × Unit) => Option.bind (F39 (r.2.1, r.2.2.1, r.2.2.2.1, r.2.2.2.2.1, ())) fun (r : ByteArray × List (ByteArray × Int × Int × Int × ByteArray × Unit) × List (ByteArray × Int × Int × Int × ByteArray × Unit) × List (ByteArray × ByteArray × Int × Int × Int × ByteArray × Unit) × Unit) =>
 Option.bind (F24 (r.1, r.2.1, r.2.2.1, r.2.2.2.1, ())) fun (r : ByteArray × List (ByteArray × Int × Int × Int × ByteArray × Unit) × List (ByteArray × Int × Int × Int × ByteArray × Unit) × List (ByteArray × ByteArray × Int × Int × Int × ByteArray × Unit) × Unit) => some (r.1, r.2.1, r.2.2.1, r.2.2.2.1, ()) := by kernel_rfl
theorem B62_0_eq (x0 : ByteArray) (x1 x2 : Int) (x3 : List ByteArray) : B62_0 (x0, x1, x2, x3, ()) = bif decide (x2 ≤ Int.ofNat (ByteArray.size x0)) then bif x2 == Int.ofNat (ByteArray.size x0) then bif decide (Int.ofNat 0 ≤ x1) && (decide (x1 ≤ x2) && decide (x2 ≤ Int.ofNat (ByteArray.size x0))) then bif decide
 (List.length x3 + List.length [ByteArray.extract x0 (Int.toNat x1) (Int.toNat x2)] ≤ 8796093022208) then some (Sum.inl (x0, IntKind.wrap IntKind.i64 (x2 + Int.ofNat 1), IntKind.wrap IntKind.i64 (x2 + Int.ofNat 1), x3 ++ [ByteArray.extract x0 (Int.toNat x1) (Int.toNat x2)], ())) else none else none else bif decide (Int.ofNat 0 ≤ x2) && decide (x2 < Int.ofNat (ByteArray.size x0)) then
 bif bt x0 x2 == Int.ofNat 47 then bif decide (Int.ofNat 0 ≤ x1) && (decide (x1 ≤ x2) && decide (x2 ≤ Int.ofNat (ByteArray.size x0))) then bif decide (List.length x3 + List.length [ByteArray.extract x0 (Int.toNat x1) (Int.toNat x2)] ≤ 8796093022208) then some (Sum.inl (x0, IntKind.wrap IntKind.i64 (x2 + Int.ofNat 1), IntKind.wrap IntKind.i64 (x2 + Int.ofNat 1),
 x3 ++ [ByteArray.extract x0 (Int.toNat x1) (Int.toNat x2)], ())) else none else none else some (Sum.inl (x0, x1, IntKind.wrap IntKind.i64 (x2 + Int.ofNat 1), x3, ())) else none else some (Sum.inr (x3, ())) := by kernel_rfl
theorem F62_eq (x0 : ByteArray) : F62 (x0, ()) = Option.bind (loop B62_0 (x0, Int.ofNat 0, Int.ofNat 0, [], ())) fun (r : List ByteArray × Unit) => some (r.1, ()) := by kernel_rfl
theorem B41_0_eq (x0 : ByteArray) (x1 : Int) : B41_0 (x0, x1, ()) = bif decide (x1 < Int.ofNat (ByteArray.size x0)) then bif decide (Int.ofNat 0 ≤ x1) && decide (x1 < Int.ofNat (ByteArray.size x0)) then bif decide (bt x0 x1 < Int.ofNat 97) then bif decide (bt x0 x1 < Int.ofNat 48) then bif !bt x0 x1 == Int.ofNat 46 then bif !bt x0 x1 == Int.ofNat 45 then bif !bt x0 x1 == Int.ofNat 95 then
 bif !bt x0 x1 == Int.ofNat 47 then some (Sum.inr (Sum.inl (false, ()))) else some (Sum.inl (x0, IntKind.wrap IntKind.i64 (x1 + Int.ofNat 1), ())) else some (Sum.inl (x0, IntKind.wrap IntKind.i64 (x1 + Int.ofNat 1), ())) else some (Sum.inl (x0, IntKind.wrap IntKind.i64 (x1 + Int.ofNat 1), ())) else some (Sum.inl (x0, IntKind.wrap IntKind.i64 (x1 + Int.ofNat 1), ())) else
 bif decide (bt x0 x1 > Int.ofNat 57) then bif !bt x0 x1 == Int.ofNat 46 then bif !bt x0 x1 == Int.ofNat 45 then bif !bt x0 x1 == Int.ofNat 95 then bif !bt x0 x1 == Int.ofNat 47 then some (Sum.inr (Sum.inl (false, ()))) else some (Sum.inl (x0, IntKind.wrap IntKind.i64 (x1 + Int.ofNat 1), ())) else some (Sum.inl (x0, IntKind.wrap IntKind.i64 (x1 + Int.ofNat 1), ()))
 else some (Sum.inl (x0, IntKind.wrap IntKind.i64 (x1 + Int.ofNat 1), ())) else some (Sum.inl (x0, IntKind.wrap IntKind.i64 (x1 + Int.ofNat 1), ())) else some (Sum.inl (x0, IntKind.wrap IntKind.i64 (x1 + Int.ofNat 1), ())) else bif decide (bt x0 x1 > Int.ofNat 122) then bif decide (bt x0 x1 < Int.ofNat 48) then bif !bt x0 x1 == Int.ofNat 46 then bif !bt x0 x1 == Int.ofNat 45 then
 bif !bt x0 x1 == Int.ofNat 95 then bif !bt x0 x1 == Int.ofNat 47 then some (Sum.inr (Sum.inl (false, ()))) else some (Sum.inl (x0, IntKind.wrap IntKind.i64 (x1 + Int.ofNat 1), ())) else some (Sum.inl (x0, IntKind.wrap IntKind.i64 (x1 + Int.ofNat 1), ())) else some (Sum.inl (x0, IntKind.wrap IntKind.i64 (x1 + Int.ofNat 1), ()))
 else some (Sum.inl (x0, IntKind.wrap IntKind.i64 (x1 + Int.ofNat 1), ())) else bif decide (bt x0 x1 > Int.ofNat 57) then bif !bt x0 x1 == Int.ofNat 46 then bif !bt x0 x1 == Int.ofNat 45 then bif !bt x0 x1 == Int.ofNat 95 then bif !bt x0 x1 == Int.ofNat 47 then some (Sum.inr (Sum.inl (false, ()))) else some (Sum.inl (x0, IntKind.wrap IntKind.i64 (x1 + Int.ofNat 1), ()))
 else some (Sum.inl (x0, IntKind.wrap IntKind.i64 (x1 + Int.ofNat 1), ())) else some (Sum.inl (x0, IntKind.wrap IntKind.i64 (x1 + Int.ofNat 1), ())) else some (Sum.inl (x0, IntKind.wrap IntKind.i64 (x1 + Int.ofNat 1), ())) else some (Sum.inl (x0, IntKind.wrap IntKind.i64 (x1 + Int.ofNat 1), ())) else some (Sum.inl (x0, IntKind.wrap IntKind.i64 (x1 + Int.ofNat 1), ())) else none
 else some (Sum.inr (Sum.inr (x0, ()))) := by kernel_rfl
theorem B41_1_eq (x0 : ByteArray) (x1 : List ByteArray) (x2 : Int) : B41_1 (x0, x1, x2, ()) = bif decide (x2 < Int.ofNat (List.length x1)) then bif decide (Int.ofNat 0 ≤ x2) then Option.bind x1[Int.toNat x2]? fun (y : ByteArray) => bif ByteArray.toList y == [] then some (Sum.inr (Sum.inl (false, ()))) else bif decide (Int.ofNat 0 ≤ x2) then Option.bind x1[Int.toNat x2]? fun (y : ByteArray) => bif
 ByteArray.toList y == [46] then some (Sum.inr (Sum.inl (false, ()))) else bif decide (Int.ofNat 0 ≤ x2) then Option.bind x1[Int.toNat x2]? fun (y : ByteArray) => bif ByteArray.toList y == [46, 46] then some (Sum.inr (Sum.inl (false, ()))) else some (Sum.inl (x0, x1, IntKind.wrap IntKind.i64 (x2 + Int.ofNat 1), ())) else none else none else none
 else some (Sum.inr (Sum.inr (x0, ()))) := by kernel_rfl
theorem F41_eq (x0 : ByteArray) : F41 (x0, ()) = Option.bind (loop B41_0 (x0, Int.ofNat 0, ())) fun (r : Bool × Unit ⊕ ByteArray × Unit) => Sum.elim (fun (p : Bool × Unit) => some (p.1, ())) (fun (p : ByteArray × Unit) => Option.bind (F62 (p.1, ())) fun (r : List ByteArray × Unit) => Option.bind (loop B41_1 (p.1, r.1, Int.ofNat 0, ())) fun (r : Bool × Unit ⊕ ByteArray × Unit) =>
 Sum.elim (fun (p : Bool × Unit) => some (p.1, ())) (fun (p : ByteArray × Unit) => some (decide (Int.ofNat (ByteArray.size p.1) ≤ Int.ofNat 40), ())) r) r := by kernel_rfl
theorem B127_0_eq (x0 : ByteArray) (x1 x2 : Int) : B127_0 (x0, x1, x2, ()) = bif decide (x2 < Int.ofNat (ByteArray.size x0)) then bif decide (Int.ofNat 0 ≤ x2) && decide (x2 < Int.ofNat (ByteArray.size x0)) then bif decide (bt x0 x2 < Int.ofNat 48) then some (Sum.inr (Sum.inl (Int.ofNat 0, false, ()))) else bif decide (Int.ofNat 0 ≤ x2) && decide (x2 < Int.ofNat (ByteArray.size x0)) then
 bif decide (bt x0 x2 > Int.ofNat 57) then some (Sum.inr (Sum.inl (Int.ofNat 0, false, ()))) else bif decide (Int.ofNat 0 ≤ x2) && decide (x2 < Int.ofNat (ByteArray.size x0)) then some (Sum.inl (x0, IntKind.wrap IntKind.i64 (IntKind.wrap IntKind.i64 (Int.ofNat 10 * x1) + IntKind.wrap IntKind.i64 (IntKind.wrap IntKind.u8 (bt x0 x2 - Int.ofNat 48))),
 IntKind.wrap IntKind.i64 (x2 + Int.ofNat 1), ())) else none else none else none else some (Sum.inr (Sum.inr (x1, ()))) := by kernel_rfl
theorem F127_eq (x0 : ByteArray) : F127 (x0, ()) = bif decide (Int.ofNat (ByteArray.size x0) < Int.ofNat 1) then some (Int.ofNat 0, false, ()) else bif decide (Int.ofNat (ByteArray.size x0) > Int.ofNat 9) then some (Int.ofNat 0, false, ()) else bif decide (Int.ofNat (ByteArray.size x0) > Int.ofNat 1) then bif decide (Int.ofNat 0 < Int.ofNat (ByteArray.size x0)) then
 bif bt x0 (Int.ofNat 0) == Int.ofNat 48 then some (Int.ofNat 0, false, ()) else Option.bind (loop B127_0 (x0, Int.ofNat 0, Int.ofNat 0, ())) fun (r : Int × Bool × Unit ⊕ Int × Unit) => Sum.elim (fun (p : Int × Bool × Unit) => some (p.1, p.2.1, ())) (fun (p : Int × Unit) => some (p.1, true, ())) r else none else Option.bind (loop B127_0 (x0, Int.ofNat 0, Int.ofNat 0, ()))
 fun (r : Int × Bool × Unit ⊕ Int × Unit) => Sum.elim (fun (p : Int × Bool × Unit) => some (p.1, p.2.1, ())) (fun (p : Int × Unit) => some (p.1, true, ())) r := by kernel_rfl
theorem F109_eq (x0 : ByteArray) : F109 (x0, ()) = Option.bind (F62 (x0, ())) fun (r : List ByteArray × Unit) => bif decide (Int.ofNat 0 ≤ IntKind.wrap IntKind.i64 (Int.ofNat (List.length r.1) - Int.ofNat 1)) then Option.bind r.1[Int.toNat (IntKind.wrap IntKind.i64 (Int.ofNat (List.length r.1) - Int.ofNat 1))]? fun (y : ByteArray) =>
 bif decide (Int.ofNat (List.length r.1) < Int.ofNat 2) then some (x0, Int.ofNat 0, ()) else bif ByteArray.toList y == [] then some (x0, Int.ofNat 0, ()) else bif decide (Int.ofNat 0 < Int.ofNat (ByteArray.size y)) then bif !bt y (Int.ofNat 0) == Int.ofNat 118 then some (x0, Int.ofNat 0, ()) else bif decide (Int.ofNat 1 ≤ Int.ofNat (ByteArray.size y)) &&
 decide (Int.ofNat (ByteArray.size y) ≤ Int.ofNat (ByteArray.size y)) then Option.bind (F127 (ByteArray.extract y 1 (Int.toNat (Int.ofNat (ByteArray.size y))), ())) fun (r : Int × Bool × Unit) => bif !r.2.1 then some (x0, Int.ofNat 0, ()) else bif decide (r.1 < Int.ofNat 2) then some (x0, Int.ofNat 0, ()) else bif decide (r.1 > Int.ofNat 999999) then some (x0, Int.ofNat 0, ()) else bif decide
 (Int.ofNat 0 ≤ IntKind.wrap IntKind.i64 (IntKind.wrap IntKind.i64 (Int.ofNat (ByteArray.size x0) - Int.ofNat (ByteArray.size y)) - Int.ofNat 1)) && decide (IntKind.wrap IntKind.i64 (IntKind.wrap IntKind.i64 (Int.ofNat (ByteArray.size x0) - Int.ofNat (ByteArray.size y)) - Int.ofNat 1) ≤ Int.ofNat (ByteArray.size x0)) then some (ByteArray.extract x0 0 (Int.toNat (IntKind.wrap IntKind.i64
 (IntKind.wrap IntKind.i64 (Int.ofNat (ByteArray.size x0) - Int.ofNat (ByteArray.size y)) - Int.ofNat 1))), r.1, ()) else none else none else none else none := by kernel_rfl
theorem F82_eq (x0 : ByteArray) (x1 x2 x3 : Int) (x4 : ByteArray) : F82 (x0, x1, x2, x3, x4, ()) = Option.bind (F109 (x0, ())) fun (r : ByteArray × Int × Unit) => bif r.2.1 == x1 then some (true, ()) else bif r.2.1 == Int.ofNat 0 then some (x1 == Int.ofNat 1, ()) else some (false, ()) := by kernel_rfl
theorem F63_eq (x0 : ByteArray) (x1 x2 x3 : Int) (x4 : ByteArray) : F63 (x0, x1, x2, x3, x4, ()) = Option.bind (F80 (x1, x2, x3, x4, ())) fun (r : Bool × Unit) => bif r.1 then Option.bind (F82 (x0, x1, x2, x3, x4, ())) fun (r : Bool × Unit) => some (r.1, ()) else some (false, ()) := by kernel_rfl
theorem F42_eq (x0 : ByteArray) (x1 x2 x3 : Int) (x4 : ByteArray) : F42 (x0, x1, x2, x3, x4, ()) = Option.bind (F41 (x0, ())) fun (r : Bool × Unit) => bif r.1 then Option.bind (F63 (x0, x1, x2, x3, x4, ())) fun (r : Bool × Unit) => some (r.1, ()) else some (false, ()) := by kernel_rfl
theorem B18_0_eq (x0 : Int) (x1 : ByteArray) (x2 x3 : List (Ty.D r0)) (x4 : List (Ty.D r4)) : B18_0 (x0, x1, x2, x3, x4, ()) = bif decide (x0 < Int.ofNat (List.length x2)) then bif decide (Int.ofNat 0 ≤ x0) then Option.bind x2[Int.toNat x0]? fun (y : ByteArray × Int × Int × Int × ByteArray × Unit) => Option.bind (F42 (y.1, y.2.1, y.2.2.1, y.2.2.2.1, y.2.2.2.2.1, ())) fun (r : Bool × Unit) =>
 bif !r.1 then some (Sum.inr (Sum.inl (false, ()))) else bif ByteArray.toList y.1 == ByteArray.toList x1 then some (Sum.inr (Sum.inl (false, ()))) else bif decide (x0 > Int.ofNat 0) then bif decide (Int.ofNat 0 ≤ IntKind.wrap IntKind.i64 (x0 - Int.ofNat 1)) then Option.bind x2[Int.toNat (IntKind.wrap IntKind.i64 (x0 - Int.ofNat 1))]? fun (y_1 : ByteArray × Int × Int × Int × ByteArray × Unit) =>
 bif !Op.bytesLess (ByteArray.toList y_1.1) (ByteArray.toList y.1) then some (Sum.inr (Sum.inl (false, ()))) else some (Sum.inl (IntKind.wrap IntKind.i64 (x0 + Int.ofNat 1), x1, x2, x3, x4, ())) else none else some (Sum.inl (IntKind.wrap IntKind.i64 (x0 + Int.ofNat 1), x1, x2, x3, x4, ())) else none else some (Sum.inr (Sum.inr (x1, x2, x3, x4, ()))) := by kernel_rfl
theorem B18_1_eq (x0 : Int) (x1 : ByteArray) (x2 x3 : List (Ty.D r0)) (x4 : List (Ty.D r4)) : B18_1 (x0, x1, x2, x3, x4, ()) = bif decide (x0 < Int.ofNat (List.length x3)) then bif decide (Int.ofNat 0 ≤ x0) then Option.bind x3[Int.toNat x0]? fun (y : ByteArray × Int × Int × Int × ByteArray × Unit) => Option.bind (F42 (y.1, y.2.1, y.2.2.1, y.2.2.2.1, y.2.2.2.2.1, ())) fun (r : Bool × Unit) =>
 bif !r.1 then some (Sum.inr (Sum.inl (false, ()))) else bif decide (x0 > Int.ofNat 0) then bif decide (Int.ofNat 0 ≤ IntKind.wrap IntKind.i64 (x0 - Int.ofNat 1)) then Option.bind x3[Int.toNat (IntKind.wrap IntKind.i64 (x0 - Int.ofNat 1))]? fun (y : ByteArray × Int × Int × Int × ByteArray × Unit) => bif decide (Int.ofNat 0 ≤ x0) then
 Option.bind x3[Int.toNat x0]? fun (y_1 : ByteArray × Int × Int × Int × ByteArray × Unit) => Option.bind (F40 (y.1, y.2.1, y.2.2.1, y.2.2.2.1, y.2.2.2.2.1, y_1.1, y_1.2.1, y_1.2.2.1, y_1.2.2.2.1, y_1.2.2.2.2.1, ())) fun (r : Bool × Unit) => bif !r.1 then some (Sum.inr (Sum.inl (false, ()))) else some (Sum.inl (IntKind.wrap IntKind.i64 (x0 + Int.ofNat 1), x1, x2, x3, x4, ())) else none else none
 else some (Sum.inl (IntKind.wrap IntKind.i64 (x0 + Int.ofNat 1), x1, x2, x3, x4, ())) else none else some (Sum.inr (Sum.inr (x1, x2, x3, x4, ()))) := by kernel_rfl
theorem B18_2_eq (x0 : Int) (x1 : ByteArray) (x2 x3 : List (Ty.D r0)) (x4 : List (Ty.D r4)) : B18_2 (x0, x1, x2, x3, x4, ()) = bif decide (x0 < Int.ofNat (List.length x4)) then bif decide (Int.ofNat 0 ≤ x0) then Option.bind x4[Int.toNat x0]? fun (y : ByteArray × ByteArray × Int × Int × Int × ByteArray × Unit) => Option.bind (F41 (y.1, ())) fun (r : Bool × Unit) =>
 bif !r.1 then some (Sum.inr (Sum.inl (false, ()))) else Option.bind (F42 (y.2.1, y.2.2.1, y.2.2.2.1, y.2.2.2.2.1, y.2.2.2.2.2.1, ())) fun (r : Bool × Unit) => bif !r.1 then some (Sum.inr (Sum.inl (false, ()))) else bif ByteArray.toList y.1 == ByteArray.toList x1 then some (Sum.inr (Sum.inl (false, ()))) else bif decide (x0 > Int.ofNat 0) then
 bif decide (Int.ofNat 0 ≤ IntKind.wrap IntKind.i64 (x0 - Int.ofNat 1)) then Option.bind x4[Int.toNat (IntKind.wrap IntKind.i64 (x0 - Int.ofNat 1))]? fun (y_1 : ByteArray × ByteArray × Int × Int × Int × ByteArray × Unit) => bif !Op.bytesLess (ByteArray.toList y_1.1) (ByteArray.toList y.1) then some (Sum.inr (Sum.inl (false, ())))
 else some (Sum.inl (IntKind.wrap IntKind.i64 (x0 + Int.ofNat 1), x1, x2, x3, x4, ())) else none else some (Sum.inl (IntKind.wrap IntKind.i64 (x0 + Int.ofNat 1), x1, x2, x3, x4, ())) else none else some (Sum.inr (Sum.inr ())) := by kernel_rfl
theorem F18_eq (x0 : ByteArray) (x1 x2 : List (Ty.D r0)) (x3 : List (Ty.D r4)) : F18 (x0, x1, x2, x3, ()) = Option.bind (F41 (x0, ())) fun (r : Bool × Unit) => bif !r.1 then some (false, ()) else bif decide (Int.ofNat (List.length x1) > Int.ofNat 2000) then some (false, ()) else bif decide (Int.ofNat (List.length x2) > Int.ofNat 2000) then some (false, ()) else
 bif decide (Int.ofNat (List.length x3) > Int.ofNat 2000) then some (false, ()) else Option.bind (loop B18_0 (Int.ofNat 0, x0, x1, x2, x3, ())) fun (r : Bool × Unit ⊕ ByteArray × List (ByteArray × Int × Int × Int × ByteArray × Unit) × List (ByteArray × Int × Int × Int × ByteArray × Unit) × List (ByteArray × ByteArray × Int × Int × Int × ByteArray × Unit) × Unit) =>
 Sum.elim (fun (p : Bool × Unit) => some (p.1, ())) (fun (p : ByteArray × List (ByteArray × Int × Int × Int × ByteArray × Unit) × List (ByteArray × Int × Int × Int × ByteArray × Unit) × List (ByteArray × ByteArray × Int × Int × Int × ByteArray × Unit) × Unit) => Option.bind (loop B18_1 (Int.ofNat 0, p.1, p.2.1, p.2.2.1, p.2.2.2.1, ())) fun (r : Bool × Unit ⊕ ByteArray ×
 List (ByteArray × Int × Int × Int × ByteArray × Unit) × List (ByteArray × Int × Int × Int × ByteArray × Unit) × List (ByteArray × ByteArray × Int × Int × Int × ByteArray × Unit) × Unit) => Sum.elim (fun (p : Bool × Unit) => some (p.1, ())) (fun (p : ByteArray × List (ByteArray × Int × Int × Int × ByteArray × Unit) × List (ByteArray × Int × Int × Int × ByteArray × Unit) ×
 List (ByteArray × ByteArray × Int × Int × Int × ByteArray × Unit) × Unit) => Option.bind (loop B18_2 (Int.ofNat 0, p.1, p.2.1, p.2.2.1, p.2.2.2.1, ())) fun (r : Bool × Unit ⊕ Unit) => Sum.elim (fun (p : Bool × Unit) => some (p.1, ())) (fun (p : Unit) => some (true, ())) r) r) r := by kernel_rfl
theorem B51_0_eq (x0 : ByteArray) (x1 : Int) (x2 : ByteArray) (x3 x4 : List (Ty.D r0)) (x5 : List (Ty.D r4)) (x6 x7 : ByteArray) (x8 x9 x10 : Int) (x11 : ByteArray) : B51_0 (x0, x1, x2, x3, x4, x5, x6, x7, x8, x9, x10, x11, ()) = bif decide (x1 < Int.ofNat (List.length x5)) then bif decide (Int.ofNat 0 ≤ x1) then
 Option.bind x5[Int.toNat x1]? fun (y : ByteArray × ByteArray × Int × Int × Int × ByteArray × Unit) => bif ByteArray.toList y.1 == ByteArray.toList x0 then bif decide (Int.ofNat 0 ≤ x1) then Option.bind x5[Int.toNat x1]? fun (y : ByteArray × ByteArray × Int × Int × Int × ByteArray × Unit) => some (Sum.inr (Sum.inl (true, y.1, y.2.1, y.2.2.1, y.2.2.2.1, y.2.2.2.2.1, y.2.2.2.2.2.1, ()))) else none
 else some (Sum.inl (x0, IntKind.wrap IntKind.i64 (x1 + Int.ofNat 1), x2, x3, x4, x5, x6, x7, x8, x9, x10, x11, ())) else none else some (Sum.inr (Sum.inr (x6, x7, x8, x9, x10, x11, ()))) := by kernel_rfl
theorem F51_eq (x0 : ByteArray) (x1 x2 : List (Ty.D r0)) (x3 : List (Ty.D r4)) (x4 : ByteArray) : F51 (x0, x1, x2, x3, x4, ()) = Option.bind (loop B51_0 (x4, Int.ofNat 0, x0, x1, x2, x3, (lit []), (lit []), Int.ofNat 0, Int.ofNat 0, Int.ofNat 0, (lit []), ())) fun (r : Bool × ByteArray × ByteArray × Int × Int × Int × ByteArray × Unit ⊕
 ByteArray × ByteArray × Int × Int × Int × ByteArray × Unit) => Sum.elim (fun (p : Bool × ByteArray × ByteArray × Int × Int × Int × ByteArray × Unit) => some (p.2.1, p.2.2.1, p.2.2.2.1, p.2.2.2.2.1, p.2.2.2.2.2.1, p.2.2.2.2.2.2.1, p.1, ())) (fun (p : ByteArray × ByteArray × Int × Int × Int × ByteArray × Unit) => some ((lit []), (lit []), Int.ofNat 0, Int.ofNat 0, Int.ofNat 0,
 (lit []), false, ())) r := by kernel_rfl
theorem B77_0_eq (x0 : ByteArray) (x1 : Int) (x2 : List (Ty.D r2)) (x3 : List (Ty.D r3)) : B77_0 (x0, x1, x2, x3, ()) = bif decide (x1 < Int.ofNat (List.length x2)) then bif decide (Int.ofNat 0 ≤ x1) then Option.bind x2[Int.toNat x1]? fun (y : ByteArray × List (Int × Int × Int × ByteArray × List (ByteArray × Int × Int × Int × ByteArray × Unit) × ByteArray × ByteArray × Unit) × Unit) =>
 bif ByteArray.toList y.1 == ByteArray.toList x0 then some (Sum.inr (Sum.inl (x1, ()))) else some (Sum.inl (x0, IntKind.wrap IntKind.i64 (x1 + Int.ofNat 1), x2, x3, ())) else none else some (Sum.inr (Sum.inr ())) := by kernel_rfl
theorem F77_eq (x0 : List (Ty.D r2)) (x1 : List (Ty.D r3)) (x2 : ByteArray) : F77 (x0, x1, x2, ()) = Option.bind (loop B77_0 (x2, Int.ofNat 0, x0, x1, ())) fun (r : Int × Unit ⊕ Unit) => Sum.elim (fun (p : Int × Unit) => some (p.1, ())) (fun (p : Unit) => some (Int.negSucc 0, ())) r := by kernel_rfl
theorem B57_0_eq (x0 : List (Ty.D r1)) (x1 x2 x3 x4 : Int) (x5 : ByteArray) (x6 x7 x8 : Int) (x9 x10 x11 : ByteArray) : B57_0 (x0, x1, x2, x3, x4, x5, x6, x7, x8, x9, x10, x11, ()) = bif decide (x1 < Int.ofNat (List.length x0)) then bif decide (Int.ofNat 0 ≤ x1) then Option.bind x0[Int.toNat x1]? fun (y : Int × Int × Int ×
 ByteArray × List (ByteArray × Int × Int × Int × ByteArray × Unit) × ByteArray × ByteArray × Unit) => bif y.1 == x2 && (y.2.1 == x3 && (y.2.2.1 == x4 && ByteArray.toList y.2.2.2.1 == ByteArray.toList x5)) then bif decide (Int.ofNat 0 ≤ x1) then Option.bind x0[Int.toNat x1]? fun (y : Int × Int × Int × ByteArray ×
 List (ByteArray × Int × Int × Int × ByteArray × Unit) × ByteArray × ByteArray × Unit) => some (Sum.inr (Sum.inl (true, y.1, y.2.1, y.2.2.1, y.2.2.2.1, y.2.2.2.2.1, y.2.2.2.2.2.1, y.2.2.2.2.2.2.1, ()))) else none else some (Sum.inl (x0, IntKind.wrap IntKind.i64 (x1 + Int.ofNat 1), x2, x3, x4, x5, x6, x7, x8, x9, x10, x11, ())) else none
 else some (Sum.inr (Sum.inr (x6, x7, x8, x9, x10, x11, ()))) := by kernel_rfl
theorem F57_eq (x0 : List (Ty.D r2)) (x1 : List (Ty.D r3)) (x2 : ByteArray) (x3 x4 x5 : Int) (x6 : ByteArray) : F57 (x0, x1, x2, x3, x4, x5, x6, ()) = Option.bind (F77 (x0, x1, x2, ())) fun (r : Int × Unit) => bif decide (r.1 < Int.ofNat 0) then some (Int.ofNat 0, Int.ofNat 0, Int.ofNat 0, (lit []), [], (lit []), (lit []), false, ()) else bif decide (Int.ofNat 0 ≤ r.1) then
 Option.bind x0[Int.toNat r.1]? fun (y : ByteArray × List (Int × Int × Int × ByteArray × List (ByteArray × Int × Int × Int × ByteArray × Unit) × ByteArray × ByteArray × Unit) × Unit) => Option.bind (loop B57_0 (y.2.1, Int.ofNat 0, x3, x4, x5, x6, Int.ofNat 0, Int.ofNat 0, Int.ofNat 0, (lit []), (lit []), (lit []), ())) fun (r : Bool × Int × Int × Int × ByteArray ×
 List (ByteArray × Int × Int × Int × ByteArray × Unit) × ByteArray × ByteArray × Unit ⊕ Int × Int × Int × ByteArray × ByteArray × ByteArray × Unit) => Sum.elim (fun (p : Bool × Int × Int × Int × ByteArray × List (ByteArray × Int × Int × Int × ByteArray × Unit) × ByteArray × ByteArray × Unit) => some (p.2.1, p.2.2.1, p.2.2.2.1, p.2.2.2.2.1, p.2.2.2.2.2.1, p.2.2.2.2.2.2.1, p.2.2.2.2.2.2.2.1, p.1,
 ())) (fun (p : Int × Int × Int × ByteArray × ByteArray × ByteArray × Unit) => some (Int.ofNat 0, Int.ofNat 0, Int.ofNat 0, (lit []), [], (lit []), (lit []), false, ())) r else none := by kernel_rfl
theorem B106_0_eq (x0 : Int) (x1 : ByteArray) (x2 x3 : List (Ty.D r0)) (x4 : List (Ty.D r4)) (x5 : ByteArray) (x6 x7 x8 : Int) (x9 : ByteArray) : B106_0 (x0, x1, x2, x3, x4, x5, x6, x7, x8, x9, ()) = bif decide (x0 < Int.ofNat (List.length x3)) then bif decide (Int.ofNat 0 ≤ x0) then Option.bind x3[Int.toNat x0]? fun (y : ByteArray × Int × Int × Int × ByteArray × Unit) => bif
 ByteArray.toList y.1 == ByteArray.toList x5 && (y.2.1 == x6 && (y.2.2.1 == x7 && (y.2.2.2.1 == x8 && ByteArray.toList y.2.2.2.2.1 == ByteArray.toList x9))) then some (Sum.inr (Sum.inl (true, ()))) else some (Sum.inl (IntKind.wrap IntKind.i64 (x0 + Int.ofNat 1), x1, x2, x3, x4, x5, x6, x7, x8, x9, ())) else none else some (Sum.inr (Sum.inr ())) := by kernel_rfl
theorem F106_eq (x0 : ByteArray) (x1 x2 : List (Ty.D r0)) (x3 : List (Ty.D r4)) (x4 : ByteArray) (x5 x6 x7 : Int) (x8 : ByteArray) : F106 (x0, x1, x2, x3, x4, x5, x6, x7, x8, ()) = Option.bind (loop B106_0 (Int.ofNat 0, x0, x1, x2, x3, x4, x5, x6, x7, x8, ())) fun (r : Bool × Unit ⊕ Unit) => Sum.elim (fun (p : Bool × Unit) => some (p.1, ())) (fun (p : Unit) => some (false, ())) r := by kernel_rfl
theorem B125_0_eq (x0 x1 : Int) (x2 : List (Ty.D r2)) (x3 : List (Ty.D r3)) (x4 : List (Ty.D r5)) : B125_0 (x0, x1, x2, x3, x4, ()) = bif decide (x0 ≥ Int.ofNat 0) then bif decide (Int.ofNat 0 ≤ x0) then Option.bind x2[Int.toNat x0]? fun (y : ByteArray × List (Int × Int × Int × ByteArray × List (ByteArray × Int × Int × Int × ByteArray × Unit) × ByteArray × ByteArray × Unit) × Unit) =>
 bif decide (x1 < Int.ofNat (List.length y.2.1)) then bif decide (Int.ofNat 0 ≤ x0) then Option.bind x2[Int.toNat x0]? fun (y : ByteArray × List (Int × Int × Int × ByteArray × List (ByteArray × Int × Int × Int × ByteArray × Unit) × ByteArray × ByteArray × Unit) × Unit) => bif decide (Int.ofNat 0 ≤ x1) then Option.bind y.2.1[Int.toNat x1]? fun (y : Int × Int × Int × ByteArray ×
 List (ByteArray × Int × Int × Int × ByteArray × Unit) × ByteArray × ByteArray × Unit) => bif decide (List.length x4 + List.length [(y.1, y.2.1, y.2.2.1, y.2.2.2.1, ())] ≤ 3518437208883) then some (Sum.inl (x0, IntKind.wrap IntKind.i64 (x1 + Int.ofNat 1), x2, x3, x4 ++ [(y.1, y.2.1, y.2.2.1, y.2.2.2.1, ())], ())) else none else none else none else some (Sum.inr (x4, ())) else none
 else some (Sum.inr (x4, ())) := by kernel_rfl
theorem F125_eq (x0 : List (Ty.D r2)) (x1 : List (Ty.D r3)) (x2 : ByteArray) : F125 (x0, x1, x2, ()) = Option.bind (F77 (x0, x1, x2, ())) fun (r : Int × Unit) => Option.bind (loop B125_0 (r.1, Int.ofNat 0, x0, x1, [], ())) fun (r : List (Int × Int × Int × ByteArray × Unit) × Unit) => some (r.1, ()) := by kernel_rfl
theorem B107_0_eq (x0 : List (Ty.D r5)) (x1 : Int) (x2 : ByteArray) (x3 x4 : List (Ty.D r0)) (x5 : List (Ty.D r4)) (x6 : ByteArray) (x7 x8 x9 : Int) (x10 x11 : ByteArray) (x12 x13 x14 : Int) (x15 : ByteArray) : B107_0 (x0, x1, x2, x3, x4, x5, x6, x7, x8, x9, x10, x11, x12, x13, x14, x15, ()) = bif decide (x1 ≥ Int.ofNat 0) then bif decide (Int.ofNat 0 ≤ x1) then
 Option.bind x0[Int.toNat x1]? fun (y : Int × Int × Int × ByteArray × Unit) => bif decide (Int.ofNat 0 ≤ x1) then Option.bind x0[Int.toNat x1]? fun (y_1 : Int × Int × Int × ByteArray × Unit) => Option.bind (F21 (y_1.1, y_1.2.1, y_1.2.2.1, y_1.2.2.2.1, x7, x8, x9, x10, ())) fun (r : Int × Unit) => bif decide (r.1 < Int.ofNat 0) then
 Option.bind (F106 (x2, x3, x4, x5, x6, y.1, y.2.1, y.2.2.1, y.2.2.2.1, ())) fun (r : Bool × Unit) => bif !r.1 then some (Sum.inr (Sum.inl (true, x6, y.1, y.2.1, y.2.2.1, y.2.2.2.1, ()))) else some (Sum.inl (x0, IntKind.wrap IntKind.i64 (x1 - Int.ofNat 1), x2, x3, x4, x5, x6, x7, x8, x9, x10, x11, x12, x13, x14, x15, ())) else some (Sum.inl
 (x0, IntKind.wrap IntKind.i64 (x1 - Int.ofNat 1), x2, x3, x4, x5, x6, x7, x8, x9, x10, x11, x12, x13, x14, x15, ())) else none else none else some (Sum.inr (Sum.inr (x11, x12, x13, x14, x15, ()))) := by kernel_rfl
theorem F107_eq (x0 : List (Ty.D r2)) (x1 : List (Ty.D r3)) (x2 : ByteArray) (x3 x4 : List (Ty.D r0)) (x5 : List (Ty.D r4)) (x6 : ByteArray) (x7 x8 x9 : Int) (x10 : ByteArray) : F107 (x0, x1, x2, x3, x4, x5, x6, x7, x8, x9, x10, ()) = Option.bind (F125 (x0, x1, x6, ())) fun (r : List (Int × Int × Int × ByteArray × Unit) × Unit) => Option.bind (loop B107_0
 (r.1, IntKind.wrap IntKind.i64 (Int.ofNat (List.length r.1) - Int.ofNat 1), x2, x3, x4, x5, x6, x7, x8, x9, x10, (lit []), Int.ofNat 0, Int.ofNat 0, Int.ofNat 0, (lit []), ())) fun (r : Bool × ByteArray × Int × Int × Int × ByteArray × Unit ⊕ ByteArray × Int × Int × Int × ByteArray × Unit) => Sum.elim (fun (p : Bool × ByteArray × Int × Int × Int × ByteArray × Unit) =>
 some (p.2.1, p.2.2.1, p.2.2.2.1, p.2.2.2.2.1, p.2.2.2.2.2.1, p.1, ())) (fun (p : ByteArray × Int × Int × Int × ByteArray × Unit) => some ((lit []), Int.ofNat 0, Int.ofNat 0, Int.ofNat 0, (lit []), false, ())) r := by kernel_rfl
theorem F78_eq (x0 : List (Ty.D r2)) (x1 : List (Ty.D r3)) (x2 : ByteArray) (x3 x4 : List (Ty.D r0)) (x5 : List (Ty.D r4)) (x6 : ByteArray) (x7 x8 x9 : Int) (x10 : ByteArray) : F78 (x0, x1, x2, x3, x4, x5, x6, x7, x8, x9, x10, ()) = bif ByteArray.toList x6 == ByteArray.toList x2 then some (x6, x7, x8, x9, x10, false, Int.ofNat 0, ()) else Option.bind (F51 (x2, x3, x4, x5, x6, ()))
 fun (r : ByteArray × ByteArray × Int × Int × Int × ByteArray × Bool × Unit) => bif r.2.2.2.2.2.2.1 then some (x6, x7, x8, x9, x10, true, Int.ofNat 0, ()) else Option.bind (F106 (x2, x3, x4, x5, x6, x7, x8, x9, x10, ())) fun (r : Bool × Unit) => bif r.1 then Option.bind (F107 (x0, x1, x2, x3, x4, x5, x6, x7, x8, x9, x10, ())) fun (r : ByteArray × Int × Int × Int × ByteArray × Bool × Unit) =>
 bif !r.2.2.2.2.2.1 then some (x6, x7, x8, x9, x10, false, Int.ofNat 13, ()) else some (r.1, r.2.1, r.2.2.1, r.2.2.2.1, r.2.2.2.2.1, true, Int.ofNat 0, ()) else Option.bind (F57 (x0, x1, x6, x7, x8, x9, x10, ())) fun (r : Int × Int × Int × ByteArray × List (ByteArray × Int × Int × Int × ByteArray × Unit) × ByteArray × ByteArray × Bool × Unit) =>
 bif !r.2.2.2.2.2.2.2.1 then some (x6, x7, x8, x9, x10, false, Int.ofNat 9, ()) else some (x6, x7, x8, x9, x10, true, Int.ofNat 0, ()) := by kernel_rfl
theorem B58_0_eq (x0 : List (Ty.D r0)) (x1 : Int) (x2 : List (Ty.D r2)) (x3 : List (Ty.D r3)) (x4 : ByteArray) (x5 x6 : List (Ty.D r0)) (x7 : List (Ty.D r4)) (x8 : List (Ty.D r0)) : B58_0 (x0, x1, x2, x3, x4, x5, x6, x7, x8, ()) = bif decide (x1 < Int.ofNat (List.length x0)) then bif decide (Int.ofNat 0 ≤ x1) then
 Option.bind x0[Int.toNat x1]? fun (y : ByteArray × Int × Int × Int × ByteArray × Unit) => Option.bind (F78 (x2, x3, x4, x5, x6, x7, y.1, y.2.1, y.2.2.1, y.2.2.2.1, y.2.2.2.2.1, ())) fun (r : ByteArray × Int × Int × Int × ByteArray × Bool × Int × Unit) => bif !r.2.2.2.2.2.2.1 == Int.ofNat 0 then some (Sum.inr (Sum.inl (r.2.2.2.2.2.2.1, ()))) else bif r.2.2.2.2.2.1 then bif decide
 (List.length x8 + List.length [(r.1, r.2.1, r.2.2.1, r.2.2.2.1, r.2.2.2.2.1, ())] ≤ 2513169434916) then some (Sum.inl (x0, IntKind.wrap IntKind.i64 (x1 + Int.ofNat 1), x2, x3, x4, x5, x6, x7, x8 ++ [(r.1, r.2.1, r.2.2.1, r.2.2.2.1, r.2.2.2.2.1, ())], ())) else none else some (Sum.inl (x0, IntKind.wrap IntKind.i64 (x1 + Int.ofNat 1), x2, x3, x4, x5, x6, x7, x8, ())) else none
 else some (Sum.inr (Sum.inr (x8, ()))) := by kernel_rfl
theorem F58_eq (x0 : List (Ty.D r2)) (x1 : List (Ty.D r3)) (x2 : ByteArray) (x3 x4 : List (Ty.D r0)) (x5 : List (Ty.D r4)) (x6 : List (Ty.D r0)) : F58 (x0, x1, x2, x3, x4, x5, x6, ()) = Option.bind (loop B58_0 (x6, Int.ofNat 0, x0, x1, x2, x3, x4, x5, [], ())) fun (r : Int × Unit ⊕ List (ByteArray × Int × Int × Int × ByteArray × Unit) × Unit) =>
 Sum.elim (fun (p : Int × Unit) => some (p.1, [], ())) (fun (p : List (ByteArray × Int × Int × Int × ByteArray × Unit) × Unit) => Option.bind (F17 (p.1, ())) fun (r : List (ByteArray × Int × Int × Int × ByteArray × Unit) × Unit) => some (Int.ofNat 0, r.1, ())) r := by kernel_rfl
theorem F30_eq (x0 : List (Ty.D r2)) (x1 : List (Ty.D r3)) (x2 : ByteArray) (x3 x4 : List (Ty.D r0)) (x5 : List (Ty.D r4)) (x6 : ByteArray) (x7 x8 x9 : Int) (x10 : ByteArray) : F30 (x0, x1, x2, x3, x4, x5, x6, x7, x8, x9, x10, ()) = Option.bind (F51 (x2, x3, x4, x5, x6, ())) fun (r : ByteArray × ByteArray × Int × Int × Int × ByteArray × Bool × Unit) => bif r.2.2.2.2.2.2.1 then
 Option.bind (F57 (x0, x1, r.2.1, r.2.2.1, r.2.2.2.1, r.2.2.2.2.1, r.2.2.2.2.2.1, ())) fun (r : Int × Int × Int × ByteArray × List (ByteArray × Int × Int × Int × ByteArray × Unit) × ByteArray × ByteArray × Bool × Unit) => bif !r.2.2.2.2.2.2.2.1 then some ([], Int.ofNat 9, ()) else Option.bind (F58 (x0, x1, x2, x3, x4, x5, r.2.2.2.2.1, ()))
 fun (r : Int × List (ByteArray × Int × Int × Int × ByteArray × Unit) × Unit) => some (r.2.1, r.1, ()) else Option.bind (F57 (x0, x1, x6, x7, x8, x9, x10, ())) fun (r : Int × Int × Int × ByteArray × List (ByteArray × Int × Int × Int × ByteArray × Unit) × ByteArray × ByteArray × Bool × Unit) => bif !r.2.2.2.2.2.2.2.1 then some ([], Int.ofNat 9, ()) else
 Option.bind (F58 (x0, x1, x2, x3, x4, x5, r.2.2.2.2.1, ())) fun (r : Int × List (ByteArray × Int × Int × Int × ByteArray × Unit) × Unit) => some (r.2.1, r.1, ()) := by kernel_rfl
theorem B59_0_eq (x0 : List (Ty.D r0)) (x1 : Int) (x2 : ByteArray) (x3 x4 x5 : Int) (x6 : ByteArray) : B59_0 (x0, x1, x2, x3, x4, x5, x6, ()) = bif decide (x1 < Int.ofNat (List.length x0)) then bif decide (Int.ofNat 0 ≤ x1) then Option.bind x0[Int.toNat x1]? fun (y : ByteArray × Int × Int × Int × ByteArray × Unit) => bif ByteArray.toList y.1 == ByteArray.toList x2 && (y.2.1 == x3 &&
 (y.2.2.1 == x4 && (y.2.2.2.1 == x5 && ByteArray.toList y.2.2.2.2.1 == ByteArray.toList x6))) then some (Sum.inr (Sum.inl (x1, ()))) else some (Sum.inl (x0, IntKind.wrap IntKind.i64 (x1 + Int.ofNat 1), x2, x3, x4, x5, x6, ())) else none else some (Sum.inr (Sum.inr ())) := by kernel_rfl
theorem F59_eq (x0 : List (Ty.D r0)) (x1 : ByteArray) (x2 x3 x4 : Int) (x5 : ByteArray) : F59 (x0, x1, x2, x3, x4, x5, ()) = Option.bind (loop B59_0 (x0, Int.ofNat 0, x1, x2, x3, x4, x5, ())) fun (r : Int × Unit ⊕ Unit) => Sum.elim (fun (p : Int × Unit) => some (p.1, ())) (fun (p : Unit) => some (Int.negSucc 0, ())) r := by kernel_rfl
theorem B49_0_eq (x0 : Int) (x1 : List (Ty.D r2)) (x2 : List (Ty.D r3)) (x3 : ByteArray) (x4 x5 : List (Ty.D r0)) (x6 : List (Ty.D r4)) (x7 : List (Ty.D r0)) (x8 : List Int) : B49_0 (x0, x1, x2, x3, x4, x5, x6, x7, x8, ()) = bif decide (x0 < Int.ofNat (List.length x7)) then bif decide (Int.ofNat 0 ≤ x0) && decide (x0 < Int.ofNat (List.length x8)) then
 Option.bind x8[Int.toNat x0]? fun (y : Int) => some (Sum.inl (IntKind.wrap IntKind.i64 (x0 + Int.ofNat 1), x1, x2, x3, x4, x5, x6, x7, List.set x8 (Int.toNat x0) (Int.negSucc 0), ())) else none else some (Sum.inr (x1, x2, x3, x4, x5, x6, x7, x8, ())) := by kernel_rfl
theorem B49_1_eq (x0 : Int) (x1 : List (Ty.D r0)) (x2 : Int) (x3 : List (Ty.D r2)) (x4 : List (Ty.D r3)) (x5 : ByteArray) (x6 x7 : List (Ty.D r0)) (x8 : List (Ty.D r4)) (x9 : List (Ty.D r0)) (x10 : List Int) : B49_1 (x0, x1, x2, x3, x4, x5, x6, x7, x8, x9, x10, ()) = bif decide (x2 < Int.ofNat (List.length x1)) then bif decide (Int.ofNat 0 ≤ x2) then
 Option.bind x1[Int.toNat x2]? fun (y : ByteArray × Int × Int × Int × ByteArray × Unit) => Option.bind (F59 (x9, y.1, y.2.1, y.2.2.1, y.2.2.2.1, y.2.2.2.2.1, ())) fun (r : Int × Unit) => bif decide (r.1 < Int.ofNat 0) then bif decide (Int.ofNat 0 ≤ x2) then Option.bind x1[Int.toNat x2]? fun (y : ByteArray × Int × Int × Int × ByteArray × Unit) => bif decide
 (List.length x9 + List.length [(y.1, y.2.1, y.2.2.1, y.2.2.2.1, y.2.2.2.2.1, ())] ≤ 2513169434916) then bif decide (List.length x10 + List.length [x0] ≤ 17592186044416) then some (Sum.inl (x0, x1, IntKind.wrap IntKind.i64 (x2 + Int.ofNat 1), x3, x4, x5, x6, x7, x8, x9 ++ [(y.1, y.2.1, y.2.2.1, y.2.2.2.1, y.2.2.2.2.1, ())], x10 ++ [x0], ())) else none else none else none else some (Sum.inl
 (x0, x1, IntKind.wrap IntKind.i64 (x2 + Int.ofNat 1), x3, x4, x5, x6, x7, x8, x9, x10, ())) else none else some (Sum.inr (x0, x3, x4, x5, x6, x7, x8, x9, x10, ())) := by kernel_rfl
theorem B49_2_eq (x0 : Int) (x1 : List (Ty.D r2)) (x2 : List (Ty.D r3)) (x3 : ByteArray) (x4 x5 : List (Ty.D r0)) (x6 : List (Ty.D r4)) (x7 : List (Ty.D r0)) (x8 : List Int) : B49_2 (x0, x1, x2, x3, x4, x5, x6, x7, x8, ()) = bif decide (x0 < Int.ofNat (List.length x7)) then bif decide (Int.ofNat 0 ≤ x0) then Option.bind x7[Int.toNat x0]? fun (y : ByteArray × Int × Int × Int × ByteArray × Unit) =>
 Option.bind (F30 (x1, x2, x3, x4, x5, x6, y.1, y.2.1, y.2.2.1, y.2.2.2.1, y.2.2.2.2.1, ())) fun (r : List (ByteArray × Int × Int × Int × ByteArray × Unit) × Int × Unit) => bif !r.2.1 == Int.ofNat 0 then some (Sum.inr (Sum.inl (r.2.1, ()))) else Option.bind (loop B49_1 (x0, r.1, Int.ofNat 0, x1, x2, x3, x4, x5, x6, x7, x8, ())) fun (r : Int × List (ByteArray × List (Int × Int × Int × ByteArray ×
 List (ByteArray × Int × Int × Int × ByteArray × Unit) × ByteArray × ByteArray × Unit) × Unit) × List (ByteArray × ByteArray × Bool × Bool × Int × Int × Int × ByteArray × Int × Unit) × ByteArray × List (ByteArray × Int × Int × Int × ByteArray × Unit) × List (ByteArray × Int × Int × Int × ByteArray × Unit) × List (ByteArray × ByteArray × Int × Int × Int × ByteArray × Unit) ×
 List (ByteArray × Int × Int × Int × ByteArray × Unit) × List Int × Unit) => some (Sum.inl (IntKind.wrap IntKind.i64 (r.1 + Int.ofNat 1), r.2.1, r.2.2.1, r.2.2.2.1, r.2.2.2.2.1, r.2.2.2.2.2.1, r.2.2.2.2.2.2.1, r.2.2.2.2.2.2.2.1, r.2.2.2.2.2.2.2.2.1, ())) else none else some (Sum.inr (Sum.inr (x7, x8, ()))) := by kernel_rfl
theorem F49_eq (x0 : List (Ty.D r2)) (x1 : List (Ty.D r3)) (x2 : ByteArray) (x3 x4 : List (Ty.D r0)) (x5 : List (Ty.D r4)) : F49 (x0, x1, x2, x3, x4, x5, ()) = Option.bind (F58 (x0, x1, x2, x3, x4, x5, x3, ())) fun (r : Int × List (ByteArray × Int × Int × Int × ByteArray × Unit) × Unit) => bif !r.1 == Int.ofNat 0 then some (r.1, [], [], ()) else bif
 decide (Int.ofNat 0 ≤ Int.ofNat (List.length r.2.1)) && (decide (Int.ofNat (List.length r.2.1) ≤ Int.ofNat (List.length r.2.1)) && decide (Int.ofNat 8 * Int.ofNat (List.length r.2.1) ≤ Int.ofNat 281474976710656) && decide (Int.ofNat (List.length r.2.1) ≤ Int.ofNat 9223372036854775807)) then Option.bind (loop B49_0 (Int.ofNat 0, x0, x1, x2, x3, x4, x5, r.2.1,
 List.replicate (Int.toNat (Int.ofNat (List.length r.2.1))) (Int.ofNat 0), ())) fun (r : List (ByteArray × List (Int × Int × Int × ByteArray × List (ByteArray × Int × Int × Int × ByteArray × Unit) × ByteArray × ByteArray × Unit) × Unit) × List (ByteArray × ByteArray × Bool × Bool × Int × Int × Int × ByteArray × Int × Unit) × ByteArray × List (ByteArray × Int × Int × Int × ByteArray × Unit) ×
 List (ByteArray × Int × Int × Int × ByteArray × Unit) × List (ByteArray × ByteArray × Int × Int × Int × ByteArray × Unit) × List (ByteArray × Int × Int × Int × ByteArray × Unit) × List Int × Unit) => Option.bind (loop B49_2 (Int.ofNat 0, r.1, r.2.1, r.2.2.1, r.2.2.2.1, r.2.2.2.2.1, r.2.2.2.2.2.1, r.2.2.2.2.2.2.1, r.2.2.2.2.2.2.2.1, ()))
 fun (r : Int × Unit ⊕ List (ByteArray × Int × Int × Int × ByteArray × Unit) × List Int × Unit) => Sum.elim (fun (p : Int × Unit) => some (p.1, [], [], ())) (fun (p : List (ByteArray × Int × Int × Int × ByteArray × Unit) × List Int × Unit) => some (Int.ofNat 0, p.1, p.2.1, ())) r else none := by kernel_rfl
theorem B50_0_eq (x0 : List (Ty.D r5)) (x1 x2 x3 x4 : Int) (x5 : ByteArray) (x6 x7 x8 : Int) (x9 : ByteArray) : B50_0 (x0, x1, x2, x3, x4, x5, x6, x7, x8, x9, ()) = bif decide (x1 < Int.ofNat (List.length x0)) then bif x1 == Int.ofNat 0 then bif decide (Int.ofNat 0 ≤ x1) then Option.bind x0[Int.toNat x1]? fun (y : Int × Int × Int × ByteArray × Unit) => some (Sum.inl
 (x0, IntKind.wrap IntKind.i64 (x1 + Int.ofNat 1), x2, x3, x4, x5, y.1, y.2.1, y.2.2.1, y.2.2.2.1, ())) else none else bif decide (Int.ofNat 0 ≤ x1) then Option.bind x0[Int.toNat x1]? fun (y : Int × Int × Int × ByteArray × Unit) => Option.bind (F21 (y.1, y.2.1, y.2.2.1, y.2.2.2.1, x6, x7, x8, x9, ())) fun (r : Int × Unit) => bif decide (r.1 > Int.ofNat 0) then bif decide (Int.ofNat 0 ≤ x1) then
 Option.bind x0[Int.toNat x1]? fun (y : Int × Int × Int × ByteArray × Unit) => some (Sum.inl (x0, IntKind.wrap IntKind.i64 (x1 + Int.ofNat 1), x2, x3, x4, x5, y.1, y.2.1, y.2.2.1, y.2.2.2.1, ())) else none else some (Sum.inl (x0, IntKind.wrap IntKind.i64 (x1 + Int.ofNat 1), x2, x3, x4, x5, x6, x7, x8, x9, ())) else none else some (Sum.inr (x2, x3, x4, x5, x6, x7, x8, x9, ())) := by kernel_rfl
theorem F50_eq (x0 : List (Ty.D r5)) : F50 (x0, ()) = Option.bind (loop B50_0 (x0, Int.ofNat 0, Int.ofNat 0, Int.ofNat 0, Int.ofNat 0, (lit []), Int.ofNat 0, Int.ofNat 0, Int.ofNat 0, (lit []), ())) fun (r : Int × Int × Int × ByteArray × Int × Int × Int × ByteArray × Unit) => some (r.2.2.2.2.1, r.2.2.2.2.2.1, r.2.2.2.2.2.2.1, r.2.2.2.2.2.2.2.1, ()) := by kernel_rfl
theorem B22_0_eq (x0 x1 : Int) (x2 : ByteArray) (x3 x4 : List (Ty.D r0)) (x5 : List (Ty.D r4)) (x6 : List (Ty.D r0)) (x7 : List (Ty.D r6)) : B22_0 (x0, x1, x2, x3, x4, x5, x6, x7, ()) = bif decide (x1 > Int.ofNat 0) then bif decide (Int.ofNat 0 ≤ x0) then Option.bind x6[Int.toNat x0]? fun (y : ByteArray × Int × Int × Int × ByteArray × Unit) => bif
 decide (Int.ofNat 0 ≤ IntKind.wrap IntKind.i64 (x1 - Int.ofNat 1)) && decide (IntKind.wrap IntKind.i64 (x1 - Int.ofNat 1) < Int.ofNat (List.length x7)) then Option.bind x7[Int.toNat (IntKind.wrap IntKind.i64 (x1 - Int.ofNat 1))]? fun (y_1 : ByteArray × Int × Int × Int × ByteArray × ByteArray × Int × Int × Int × ByteArray × Unit) =>
 bif Op.bytesLess (ByteArray.toList y.1) (ByteArray.toList y_1.1) then some (Sum.inl (x0, IntKind.wrap IntKind.i64 (x1 - Int.ofNat 1), x2, x3, x4, x5, x6, x7, ())) else some (Sum.inr (x0, x1, x2, x3, x4, x5, x6, x7, ())) else none else none else some (Sum.inr (x0, x1, x2, x3, x4, x5, x6, x7, ())) := by kernel_rfl
theorem B22_1_eq (x0 : Int) (x1 : ByteArray) (x2 x3 : List (Ty.D r0)) (x4 : List (Ty.D r4)) (x5 : List (Ty.D r0)) (x6 : List (Ty.D r6)) : B22_1 (x0, x1, x2, x3, x4, x5, x6, ()) = bif decide (x0 < Int.ofNat (List.length x5)) then Option.bind (loop B22_0 (x0, Int.ofNat (List.length x6), x1, x2, x3, x4, x5, x6, ())) fun (r : Int × Int × ByteArray ×
 List (ByteArray × Int × Int × Int × ByteArray × Unit) × List (ByteArray × Int × Int × Int × ByteArray × Unit) × List (ByteArray × ByteArray × Int × Int × Int × ByteArray × Unit) × List (ByteArray × Int × Int × Int × ByteArray × Unit) × List (ByteArray × Int × Int × Int × ByteArray × ByteArray × Int × Int × Int × ByteArray × Unit) × Unit) => bif decide (r.2.1 > Int.ofNat 0) then bif
 decide (Int.ofNat 0 ≤ IntKind.wrap IntKind.i64 (r.2.1 - Int.ofNat 1)) && decide (IntKind.wrap IntKind.i64 (r.2.1 - Int.ofNat 1) < Int.ofNat (List.length r.2.2.2.2.2.2.2.1)) then Option.bind r.2.2.2.2.2.2.2.1[Int.toNat (IntKind.wrap IntKind.i64 (r.2.1 - Int.ofNat 1))]? fun (y : ByteArray × Int × Int × Int × ByteArray × ByteArray × Int × Int × Int × ByteArray × Unit) =>
 bif decide (Int.ofNat 0 ≤ r.1) then Option.bind r.2.2.2.2.2.2.1[Int.toNat r.1]? fun (y_1 : ByteArray × Int × Int × Int × ByteArray × Unit) => bif ByteArray.toList y.1 == ByteArray.toList y_1.1 then bif decide (Int.ofNat 0 ≤ IntKind.wrap IntKind.i64 (r.2.1 - Int.ofNat 1)) && decide (IntKind.wrap IntKind.i64 (r.2.1 - Int.ofNat 1) < Int.ofNat (List.length r.2.2.2.2.2.2.2.1)) then
 Option.bind r.2.2.2.2.2.2.2.1[Int.toNat (IntKind.wrap IntKind.i64 (r.2.1 - Int.ofNat 1))]? fun (y : ByteArray × Int × Int × Int × ByteArray × ByteArray × Int × Int × Int × ByteArray × Unit) => bif decide (Int.ofNat 0 ≤ r.1) then Option.bind r.2.2.2.2.2.2.1[Int.toNat r.1]? fun (y_2 : ByteArray × Int × Int × Int × ByteArray × Unit) => Option.bind (F50
 ([(y.2.1, y.2.2.1, y.2.2.2.1, y.2.2.2.2.1, ()), (y_2.2.1, y_2.2.2.1, y_2.2.2.2.1, y_2.2.2.2.2.1, ())], ())) fun (r_1 : Int × Int × Int × ByteArray × Unit) => bif decide (Int.ofNat 0 ≤ IntKind.wrap IntKind.i64 (r.2.1 - Int.ofNat 1)) && decide (IntKind.wrap IntKind.i64 (r.2.1 - Int.ofNat 1) < Int.ofNat (List.length r.2.2.2.2.2.2.2.1)) then
 Option.bind r.2.2.2.2.2.2.2.1[Int.toNat (IntKind.wrap IntKind.i64 (r.2.1 - Int.ofNat 1))]? fun (y : ByteArray × Int × Int × Int × ByteArray × ByteArray × Int × Int × Int × ByteArray × Unit) => some (Sum.inl (IntKind.wrap IntKind.i64 (r.1 + Int.ofNat 1), r.2.2.1, r.2.2.2.1, r.2.2.2.2.1, r.2.2.2.2.2.1, r.2.2.2.2.2.2.1, List.set r.2.2.2.2.2.2.2.1
 (Int.toNat (IntKind.wrap IntKind.i64 (r.2.1 - Int.ofNat 1))) (y.1, r_1.1, r_1.2.1, r_1.2.2.1, r_1.2.2.2.1, y.2.2.2.2.2.1, y.2.2.2.2.2.2.1, y.2.2.2.2.2.2.2.1, y.2.2.2.2.2.2.2.2.1, y.2.2.2.2.2.2.2.2.2.1, ()), ())) else none else none else none else bif decide (Int.ofNat 0 ≤ r.1) then Option.bind r.2.2.2.2.2.2.1[Int.toNat r.1]? fun (y : ByteArray × Int × Int × Int × ByteArray × Unit) =>
 bif decide (Int.ofNat 0 ≤ r.1) then Option.bind r.2.2.2.2.2.2.1[Int.toNat r.1]? fun (y_2 : ByteArray × Int × Int × Int × ByteArray × Unit) => Option.bind (F51 (r.2.2.1, r.2.2.2.1, r.2.2.2.2.1, r.2.2.2.2.2.1, y.1, ())) fun (r_1 : ByteArray × ByteArray × Int × Int × Int × ByteArray × Bool × Unit) => bif r_1.2.2.2.2.2.2.1 then bif decide (Int.ofNat 0 ≤ r.2.1) &&
 (decide (r.2.1 ≤ Int.ofNat (List.length r.2.2.2.2.2.2.2.1)) && decide (Int.ofNat (List.length r.2.2.2.2.2.2.2.1) ≤ Int.ofNat (List.length r.2.2.2.2.2.2.2.1))) then bif decide (0 + List.length (List.drop 0 (List.take (0 + Int.toNat r.2.1) r.2.2.2.2.2.2.2.1)) ≤ 1256584717458) then bif decide (List.length ([] ++ List.drop 0 (List.take (0 + Int.toNat r.2.1) r.2.2.2.2.2.2.2.1)) + List.length
 [(y.1, y_2.2.1, y_2.2.2.1, y_2.2.2.2.1, y_2.2.2.2.2.1, r_1.2.1, r_1.2.2.1, r_1.2.2.2.1, r_1.2.2.2.2.1, r_1.2.2.2.2.2.1, ())] ≤ 1256584717458) then bif decide (Int.ofNat 0 ≤ r.2.1) && (decide (r.2.1 ≤ Int.ofNat (List.length r.2.2.2.2.2.2.2.1)) && (decide (Int.ofNat (List.length r.2.2.2.2.2.2.2.1) ≤ Int.ofNat (List.length r.2.2.2.2.2.2.2.1)) && decide (Int.ofNat (List.length r.2.2.2.2.2.2.2.1) ≤
 Int.ofNat (List.length r.2.2.2.2.2.2.2.1)))) then bif decide (List.length ([] ++ List.drop 0 (List.take (0 + Int.toNat r.2.1) r.2.2.2.2.2.2.2.1) ++ [(y.1, y_2.2.1, y_2.2.2.1, y_2.2.2.2.1, y_2.2.2.2.2.1, r_1.2.1, r_1.2.2.1, r_1.2.2.2.1, r_1.2.2.2.2.1, r_1.2.2.2.2.2.1, ())]) + List.length (List.drop (0 + Int.toNat r.2.1) (List.take (0 + Int.toNat (Int.ofNat (List.length r.2.2.2.2.2.2.2.1)))
 r.2.2.2.2.2.2.2.1)) ≤ 1256584717458) then some (Sum.inl (IntKind.wrap IntKind.i64 (r.1 + Int.ofNat 1), r.2.2.1, r.2.2.2.1, r.2.2.2.2.1, r.2.2.2.2.2.1, r.2.2.2.2.2.2.1, [] ++ List.drop 0 (List.take (0 + Int.toNat r.2.1) r.2.2.2.2.2.2.2.1) ++ [(y.1, y_2.2.1, y_2.2.2.1, y_2.2.2.2.1, y_2.2.2.2.2.1, r_1.2.1, r_1.2.2.1, r_1.2.2.2.1, r_1.2.2.2.2.1, r_1.2.2.2.2.2.1, ())] ++
 List.drop (0 + Int.toNat r.2.1) (List.take (0 + Int.toNat (Int.ofNat (List.length r.2.2.2.2.2.2.2.1))) r.2.2.2.2.2.2.2.1), ())) else none else none else none else none else none else bif decide (Int.ofNat 0 ≤ r.2.1) && (decide (r.2.1 ≤ Int.ofNat (List.length r.2.2.2.2.2.2.2.1)) && decide (Int.ofNat (List.length r.2.2.2.2.2.2.2.1) ≤ Int.ofNat (List.length r.2.2.2.2.2.2.2.1))) then bif decide (0 +
 List.length (List.drop 0 (List.take (0 + Int.toNat r.2.1) r.2.2.2.2.2.2.2.1)) ≤ 1256584717458) then bif decide (List.length ([] ++ List.drop 0 (List.take (0 + Int.toNat r.2.1) r.2.2.2.2.2.2.2.1)) + List.length [(y.1, y_2.2.1, y_2.2.2.1, y_2.2.2.2.1, y_2.2.2.2.2.1, (lit []), Int.ofNat 0, Int.ofNat 0, Int.ofNat 0, (lit []), ())] ≤ 1256584717458) then bif decide (Int.ofNat 0 ≤ r.2.1) &&
 (decide (r.2.1 ≤ Int.ofNat (List.length r.2.2.2.2.2.2.2.1)) && (decide (Int.ofNat (List.length r.2.2.2.2.2.2.2.1) ≤ Int.ofNat (List.length r.2.2.2.2.2.2.2.1)) && decide (Int.ofNat (List.length r.2.2.2.2.2.2.2.1) ≤ Int.ofNat (List.length r.2.2.2.2.2.2.2.1)))) then bif decide (List.length ([] ++ List.drop 0 (List.take (0 + Int.toNat r.2.1) r.2.2.2.2.2.2.2.1) ++
 [(y.1, y_2.2.1, y_2.2.2.1, y_2.2.2.2.1, y_2.2.2.2.2.1, (lit []), Int.ofNat 0, Int.ofNat 0, Int.ofNat 0, (lit []), ())]) + List.length (List.drop (0 + Int.toNat r.2.1) (List.take (0 + Int.toNat (Int.ofNat (List.length r.2.2.2.2.2.2.2.1))) r.2.2.2.2.2.2.2.1)) ≤ 1256584717458) then some (Sum.inl (IntKind.wrap IntKind.i64 (r.1 + Int.ofNat 1), r.2.2.1, r.2.2.2.1,
 r.2.2.2.2.1, r.2.2.2.2.2.1, r.2.2.2.2.2.2.1, [] ++ List.drop 0 (List.take (0 + Int.toNat r.2.1) r.2.2.2.2.2.2.2.1) ++ [(y.1, y_2.2.1, y_2.2.2.1, y_2.2.2.2.1, y_2.2.2.2.2.1, (lit []), Int.ofNat 0, Int.ofNat 0, Int.ofNat 0, (lit []), ())] ++ List.drop (0 + Int.toNat r.2.1) (List.take (0 + Int.toNat (Int.ofNat (List.length r.2.2.2.2.2.2.2.1))) r.2.2.2.2.2.2.2.1), ())) else none else none else none
 else none else none else none else none else none else none else bif decide (Int.ofNat 0 ≤ r.1) then Option.bind r.2.2.2.2.2.2.1[Int.toNat r.1]? fun (y : ByteArray × Int × Int × Int × ByteArray × Unit) => bif decide (Int.ofNat 0 ≤ r.1) then Option.bind r.2.2.2.2.2.2.1[Int.toNat r.1]? fun (y_1 : ByteArray × Int × Int × Int × ByteArray × Unit) =>
 Option.bind (F51 (r.2.2.1, r.2.2.2.1, r.2.2.2.2.1, r.2.2.2.2.2.1, y.1, ())) fun (r_1 : ByteArray × ByteArray × Int × Int × Int × ByteArray × Bool × Unit) => bif r_1.2.2.2.2.2.2.1 then bif decide (Int.ofNat 0 ≤ r.2.1) && (decide (r.2.1 ≤ Int.ofNat (List.length r.2.2.2.2.2.2.2.1)) && decide (Int.ofNat (List.length r.2.2.2.2.2.2.2.1) ≤ Int.ofNat (List.length r.2.2.2.2.2.2.2.1))) then bif decide
 (0 + List.length (List.drop 0 (List.take (0 + Int.toNat r.2.1) r.2.2.2.2.2.2.2.1)) ≤ 1256584717458) then bif decide (List.length ([] ++ List.drop 0 (List.take (0 + Int.toNat r.2.1) r.2.2.2.2.2.2.2.1)) + List.length [(y.1, y_1.2.1, y_1.2.2.1, y_1.2.2.2.1, y_1.2.2.2.2.1, r_1.2.1, r_1.2.2.1, r_1.2.2.2.1, r_1.2.2.2.2.1, r_1.2.2.2.2.2.1, ())] ≤ 1256584717458) then bif decide (Int.ofNat 0 ≤ r.2.1) &&
 (decide (r.2.1 ≤ Int.ofNat (List.length r.2.2.2.2.2.2.2.1)) && (decide (Int.ofNat (List.length r.2.2.2.2.2.2.2.1) ≤ Int.ofNat (List.length r.2.2.2.2.2.2.2.1)) && decide (Int.ofNat (List.length r.2.2.2.2.2.2.2.1) ≤ Int.ofNat (List.length r.2.2.2.2.2.2.2.1)))) then bif decide (List.length ([] ++ List.drop 0 (List.take (0 + Int.toNat r.2.1) r.2.2.2.2.2.2.2.1) ++
 [(y.1, y_1.2.1, y_1.2.2.1, y_1.2.2.2.1, y_1.2.2.2.2.1, r_1.2.1, r_1.2.2.1, r_1.2.2.2.1, r_1.2.2.2.2.1, r_1.2.2.2.2.2.1, ())]) + List.length (List.drop (0 + Int.toNat r.2.1) (List.take (0 + Int.toNat (Int.ofNat (List.length r.2.2.2.2.2.2.2.1))) r.2.2.2.2.2.2.2.1)) ≤ 1256584717458) then some (Sum.inl (IntKind.wrap IntKind.i64 (r.1 + Int.ofNat 1), r.2.2.1, r.2.2.2.1, r.2.2.2.2.1,
 r.2.2.2.2.2.1, r.2.2.2.2.2.2.1, [] ++ List.drop 0 (List.take (0 + Int.toNat r.2.1) r.2.2.2.2.2.2.2.1) ++ [(y.1, y_1.2.1, y_1.2.2.1, y_1.2.2.2.1, y_1.2.2.2.2.1, r_1.2.1, r_1.2.2.1, r_1.2.2.2.1, r_1.2.2.2.2.1, r_1.2.2.2.2.2.1, ())] ++ List.drop (0 + Int.toNat r.2.1) (List.take (0 + Int.toNat (Int.ofNat (List.length r.2.2.2.2.2.2.2.1))) r.2.2.2.2.2.2.2.1), ())) else none else none else none
 else none else none else bif decide (Int.ofNat 0 ≤ r.2.1) && (decide (r.2.1 ≤ Int.ofNat (List.length r.2.2.2.2.2.2.2.1)) && decide (Int.ofNat (List.length r.2.2.2.2.2.2.2.1) ≤ Int.ofNat (List.length r.2.2.2.2.2.2.2.1))) then bif decide (0 + List.length (List.drop 0 (List.take (0 + Int.toNat r.2.1) r.2.2.2.2.2.2.2.1)) ≤ 1256584717458) then bif decide
 (List.length ([] ++ List.drop 0 (List.take (0 + Int.toNat r.2.1) r.2.2.2.2.2.2.2.1)) + List.length [(y.1, y_1.2.1, y_1.2.2.1, y_1.2.2.2.1, y_1.2.2.2.2.1, (lit []), Int.ofNat 0, Int.ofNat 0, Int.ofNat 0, (lit []), ())] ≤ 1256584717458) then bif decide (Int.ofNat 0 ≤ r.2.1) && (decide (r.2.1 ≤ Int.ofNat (List.length r.2.2.2.2.2.2.2.1)) && (decide (Int.ofNat (List.length r.2.2.2.2.2.2.2.1) ≤
 Int.ofNat (List.length r.2.2.2.2.2.2.2.1)) && decide (Int.ofNat (List.length r.2.2.2.2.2.2.2.1) ≤ Int.ofNat (List.length r.2.2.2.2.2.2.2.1)))) then bif decide (List.length ([] ++ List.drop 0 (List.take (0 + Int.toNat r.2.1) r.2.2.2.2.2.2.2.1) ++ [(y.1, y_1.2.1, y_1.2.2.1, y_1.2.2.2.1, y_1.2.2.2.2.1, (lit []), Int.ofNat 0, Int.ofNat 0, Int.ofNat 0, (lit []), ())]) + List.length
 (List.drop (0 + Int.toNat r.2.1) (List.take (0 + Int.toNat (Int.ofNat (List.length r.2.2.2.2.2.2.2.1))) r.2.2.2.2.2.2.2.1)) ≤ 1256584717458) then some (Sum.inl (IntKind.wrap IntKind.i64 (r.1 + Int.ofNat 1), r.2.2.1, r.2.2.2.1, r.2.2.2.2.1, r.2.2.2.2.2.1, r.2.2.2.2.2.2.1, [] ++ List.drop 0 (List.take (0 + Int.toNat r.2.1) r.2.2.2.2.2.2.2.1) ++
 [(y.1, y_1.2.1, y_1.2.2.1, y_1.2.2.2.1, y_1.2.2.2.2.1, (lit []), Int.ofNat 0, Int.ofNat 0, Int.ofNat 0, (lit []), ())] ++ List.drop (0 + Int.toNat r.2.1) (List.take (0 + Int.toNat (Int.ofNat (List.length r.2.2.2.2.2.2.2.1))) r.2.2.2.2.2.2.2.1), ())) else none else none else none else none else none else none else none else some (Sum.inr (x6, ())) := by kernel_rfl
theorem F22_eq (x0 : List (Ty.D r2)) (x1 : List (Ty.D r3)) (x2 : ByteArray) (x3 x4 : List (Ty.D r0)) (x5 : List (Ty.D r4)) : F22 (x0, x1, x2, x3, x4, x5, ()) = Option.bind (F49 (x0, x1, x2, x3, x4, x5, ())) fun (r : Int × List (ByteArray × Int × Int × Int × ByteArray × Unit) × List Int × Unit) => bif !r.1 == Int.ofNat 0 then some ([], r.1, ()) else
 Option.bind (loop B22_1 (Int.ofNat 0, x2, x3, x4, x5, r.2.1, [], ())) fun (r : List (ByteArray × Int × Int × Int × ByteArray × ByteArray × Int × Int × Int × ByteArray × Unit) × Unit) => some (r.1, Int.ofNat 0, ()) := by kernel_rfl
theorem B23_0_eq (x0 x1 : List (Ty.D r6)) (x2 : Int) : B23_0 (x0, x1, x2, ()) = bif decide (x2 < Int.ofNat (List.length x0)) then bif decide (Int.ofNat 0 ≤ x2) then Option.bind x0[Int.toNat x2]? fun (y : ByteArray × Int × Int × Int × ByteArray × ByteArray × Int × Int × Int × ByteArray × Unit) => bif decide (Int.ofNat 0 ≤ x2) then Option.bind x1[Int.toNat x2]?
 fun (y_1 : ByteArray × Int × Int × Int × ByteArray × ByteArray × Int × Int × Int × ByteArray × Unit) => bif !(ByteArray.toList y.1 == ByteArray.toList y_1.1 && (y.2.1 == y_1.2.1 && (y.2.2.1 == y_1.2.2.1 && (y.2.2.2.1 == y_1.2.2.2.1 && ByteArray.toList y.2.2.2.2.1 == ByteArray.toList y_1.2.2.2.2.1)) && (ByteArray.toList y.2.2.2.2.2.1 == ByteArray.toList y_1.2.2.2.2.2.1 &&
 (y.2.2.2.2.2.2.1 == y_1.2.2.2.2.2.2.1 && (y.2.2.2.2.2.2.2.1 == y_1.2.2.2.2.2.2.2.1 && (y.2.2.2.2.2.2.2.2.1 == y_1.2.2.2.2.2.2.2.2.1 && ByteArray.toList y.2.2.2.2.2.2.2.2.2.1 == ByteArray.toList y_1.2.2.2.2.2.2.2.2.2.1)))))) then some (Sum.inr (Sum.inl (false, ()))) else some (Sum.inl (x0, x1, IntKind.wrap IntKind.i64 (x2 + Int.ofNat 1), ())) else none else none
 else some (Sum.inr (Sum.inr ())) := by kernel_rfl
theorem F23_eq (x0 x1 : List (Ty.D r6)) : F23 (x0, x1, ()) = bif !Int.ofNat (List.length x0) == Int.ofNat (List.length x1) then some (false, ()) else Option.bind (loop B23_0 (x0, x1, Int.ofNat 0, ())) fun (r : Bool × Unit ⊕ Unit) => Sum.elim (fun (p : Bool × Unit) => some (p.1, ())) (fun (p : Unit) => some (true, ())) r := by kernel_rfl
theorem B25_0_eq (x0 : List (Ty.D r6)) (x1 : ByteArray) (x2 : Int) (x3 : ByteArray) (x4 x5 x6 : Int) (x7 x8 : ByteArray) (x9 x10 x11 : Int) (x12 : ByteArray) : B25_0 (x0, x1, x2, x3, x4, x5, x6, x7, x8, x9, x10, x11, x12, ()) = bif decide (x2 < Int.ofNat (List.length x0)) then bif decide (Int.ofNat 0 ≤ x2) then Option.bind x0[Int.toNat x2]?
 fun (y : ByteArray × Int × Int × Int × ByteArray × ByteArray × Int × Int × Int × ByteArray × Unit) => bif ByteArray.toList y.1 == ByteArray.toList x1 then bif decide (Int.ofNat 0 ≤ x2) then Option.bind x0[Int.toNat x2]? fun (y : ByteArray × Int × Int × Int × ByteArray × ByteArray × Int × Int × Int × ByteArray × Unit) => some (Sum.inr (Sum.inl
 (true, y.1, y.2.1, y.2.2.1, y.2.2.2.1, y.2.2.2.2.1, y.2.2.2.2.2.1, y.2.2.2.2.2.2.1, y.2.2.2.2.2.2.2.1, y.2.2.2.2.2.2.2.2.1, y.2.2.2.2.2.2.2.2.2.1, ()))) else none else some (Sum.inl (x0, x1, IntKind.wrap IntKind.i64 (x2 + Int.ofNat 1), x3, x4, x5, x6, x7, x8, x9, x10, x11, x12, ())) else none else some (Sum.inr (Sum.inr (x3, x4, x5, x6, x7, x8, x9, x10, x11, x12, ()))) := by kernel_rfl
theorem F25_eq (x0 : List (Ty.D r6)) (x1 : ByteArray) : F25 (x0, x1, ()) = Option.bind (loop B25_0 (x0, x1, Int.ofNat 0, (lit []), Int.ofNat 0, Int.ofNat 0, Int.ofNat 0, (lit []), (lit []), Int.ofNat 0, Int.ofNat 0, Int.ofNat 0, (lit []), ())) fun (r : Bool × ByteArray × Int × Int × Int × ByteArray × ByteArray × Int × Int × Int × ByteArray × Unit ⊕
 ByteArray × Int × Int × Int × ByteArray × ByteArray × Int × Int × Int × ByteArray × Unit) => Sum.elim (fun (p : Bool × ByteArray × Int × Int × Int × ByteArray × ByteArray × Int × Int × Int × ByteArray × Unit) => some (p.2.1, p.2.2.1, p.2.2.2.1, p.2.2.2.2.1, p.2.2.2.2.2.1, p.2.2.2.2.2.2.1, p.2.2.2.2.2.2.2.1, p.2.2.2.2.2.2.2.2.1, p.2.2.2.2.2.2.2.2.2.1, p.2.2.2.2.2.2.2.2.2.2.1, p.1, ()))
 (fun (p : ByteArray × Int × Int × Int × ByteArray × ByteArray × Int × Int × Int × ByteArray × Unit) => some ((lit []), Int.ofNat 0, Int.ofNat 0, Int.ofNat 0, (lit []), (lit []), Int.ofNat 0, Int.ofNat 0, Int.ofNat 0, (lit []), false, ())) r := by kernel_rfl
theorem B31_0_eq (x0 : Int) (x1 : List (Ty.D r0)) (x2 : List Int) (x3 : List (Ty.D r0)) : B31_0 (x0, x1, x2, x3, ()) = bif decide (x0 ≥ Int.ofNat 0) then bif decide (Int.ofNat 0 ≤ x0) then Option.bind x1[Int.toNat x0]? fun (y : ByteArray × Int × Int × Int × ByteArray × Unit) => bif decide (List.length [(y.1, y.2.1, y.2.2.1, y.2.2.2.1, y.2.2.2.2.1, ())] + List.length x3 ≤ 2513169434916) then
 bif decide (Int.ofNat 0 ≤ x0) && decide (x0 < Int.ofNat (List.length x2)) then Option.bind x2[Int.toNat x0]? fun (y_1 : Int) => some (Sum.inl (y_1, x1, x2, [(y.1, y.2.1, y.2.2.1, y.2.2.2.1, y.2.2.2.2.1, ())] ++ x3, ())) else none else none else none else some (Sum.inr (x3, ())) := by kernel_rfl
theorem F31_eq (x0 : List (Ty.D r2)) (x1 : List (Ty.D r3)) (x2 : ByteArray) (x3 x4 : List (Ty.D r0)) (x5 : List (Ty.D r4)) (x6 : ByteArray) : F31 (x0, x1, x2, x3, x4, x5, x6, ()) = Option.bind (F49 (x0, x1, x2, x3, x4, x5, ())) fun (r : Int × List (ByteArray × Int × Int × Int × ByteArray × Unit) × List Int × Unit) => Option.bind (F22 (x0, x1, x2, x3, x4, x5, ())) fun (r_1 :
 List (ByteArray × Int × Int × Int × ByteArray × ByteArray × Int × Int × Int × ByteArray × Unit) × Int × Unit) => Option.bind (F25 (r_1.1, x6, ())) fun (r_2 : ByteArray × Int × Int × Int × ByteArray × ByteArray × Int × Int × Int × ByteArray × Bool × Unit) => bif !r.1 == Int.ofNat 0 then some ([], false, ()) else bif !r_2.2.2.2.2.2.2.2.2.2.2.1 then some ([], false, ()) else
 Option.bind (F59 (r.2.1, x6, r_2.2.1, r_2.2.2.1, r_2.2.2.2.1, r_2.2.2.2.2.1, ())) fun (r_3 : Int × Unit) => Option.bind (loop B31_0 (r_3.1, r.2.1, r.2.2.1, [], ())) fun (r : List (ByteArray × Int × Int × Int × ByteArray × Unit) × Unit) => some (r.1, true, ()) := by kernel_rfl
theorem B32_0_eq (x0 x1 : List (Ty.D r0)) (x2 : Int) : B32_0 (x0, x1, x2, ()) = bif decide (x2 < Int.ofNat (List.length x0)) then bif decide (Int.ofNat 0 ≤ x2) then Option.bind x0[Int.toNat x2]? fun (y : ByteArray × Int × Int × Int × ByteArray × Unit) => bif decide (Int.ofNat 0 ≤ x2) then Option.bind x1[Int.toNat x2]? fun (y_1 : ByteArray × Int × Int × Int × ByteArray × Unit) => bif
 !(ByteArray.toList y.1 == ByteArray.toList y_1.1 && (y.2.1 == y_1.2.1 && (y.2.2.1 == y_1.2.2.1 && (y.2.2.2.1 == y_1.2.2.2.1 && ByteArray.toList y.2.2.2.2.1 == ByteArray.toList y_1.2.2.2.2.1)))) then some (Sum.inr (Sum.inl (false, ()))) else some (Sum.inl (x0, x1, IntKind.wrap IntKind.i64 (x2 + Int.ofNat 1), ())) else none else none else some (Sum.inr (Sum.inr ())) := by kernel_rfl
theorem F32_eq (x0 x1 : List (Ty.D r0)) : F32 (x0, x1, ()) = bif !Int.ofNat (List.length x0) == Int.ofNat (List.length x1) then some (false, ()) else Option.bind (loop B32_0 (x0, x1, Int.ofNat 0, ())) fun (r : Bool × Unit ⊕ Unit) => Sum.elim (fun (p : Bool × Unit) => some (p.1, ())) (fun (p : Unit) => some (true, ())) r := by kernel_rfl
end Go.Vx.Z
/-! strings.Split at a dot; texts held against one another. -/
namespace Go.Vx
open Go
set_option linter.unusedVariables false
theorem xIndexByte_eq (s : ByteArray) (c : Int) : xIndexByte s c = Lib.indexByte (bs s) c.toNat.toUInt8 := Lib.firstIdx_eq s c.toNat.toUInt8
theorem xCount_eq (s : ByteArray) (c : Int) : xCount s c = (((bs s).count c.toNat.toUInt8 : Nat) : Int) := by
  unfold xCount
  rw [Lib.foldl_data, Lib.count_foldl]
  simp [Lib.countByte, bs]
def splitB (c : UInt8) : List UInt8 → List (List UInt8)
  | [] => [[]]
  | x :: l => if x == c then [] :: splitB c l else match splitB c l with
    | [] => [[x]]
    | w :: ws => (x :: w) :: ws
theorem splitB_ne (c : UInt8) : ∀ l, splitB c l ≠ []
  | [] => by simp [splitB]
  | x :: l => by
    unfold splitB
    split
    · simp
    · split <;> simp
theorem index_no {c : UInt8} : ∀ {l : List UInt8}, Lib.indexByte l c = -1 → splitB c l = [l] ∧ l.count c = 0
  | [], _ => ⟨rfl, rfl⟩
  | x :: l, h => by
    unfold Lib.indexByte at h
    split at h
    · cases h
    · rename_i hx
      split at h
      · rename_i hl
        obtain ⟨h1, h2⟩ := index_no (l := l) (by simpa using hl)
        unfold splitB
        rw [if_neg hx, h1]
        exact ⟨rfl, by rw [List.count_cons, h2]; simp [hx]⟩
      · have := Lib.indexByte_ge l c
        rename_i hl
        have hl' : Lib.indexByte l c ≠ -1 := by simpa using hl
        omega
theorem index_yes {c : UInt8} : ∀ {l : List UInt8}, Lib.indexByte l c ≠ -1 → ∃ k : Nat, Lib.indexByte l c = k ∧ k < l.length ∧ splitB c l = l.take k :: splitB c (l.drop (k + 1)) ∧ l.count c = (l.drop (k + 1)).count c + 1
  | [], h => absurd rfl h
  | x :: l, h => by
    unfold Lib.indexByte at h ⊢
    split
    · rename_i hx
      refine ⟨0, rfl, by simp, ?_, ?_⟩
      · conv => lhs; unfold splitB
        rw [if_pos hx]
        simp
      · rw [List.count_cons]; simp [hx]
    · rename_i hx
      rw [if_neg hx] at h
      split
      · rename_i hl; rw [if_pos hl] at h; exact absurd rfl h
      · rename_i hl
        obtain ⟨k, h1, h2, h3, h4⟩ := index_yes (l := l) (c := c) (by simpa using hl)
        refine ⟨k + 1, by rw [h1]; rfl, by simp; omega, ?_, ?_⟩
        · conv => lhs; unfold splitB
          rw [if_neg hx, h3]
          simp
        · rw [List.count_cons, h4]; simp [hx]
theorem splitB_length (c : UInt8) : ∀ l, (splitB c l).length = l.count c + 1
  | [] => rfl
  | x :: l => by
    have ih := splitB_length c l
    unfold splitB
    rw [List.count_cons]
    split
    · rename_i hx; simp [ih, hx]
    · rename_i hx
      have hne := splitB_ne c l
      cases hs : splitB c l with
      | nil => exact absurd hs hne
      | cons w ws => rw [hs] at ih; simp [hx] at ih ⊢; exact ih
namespace Z
def dot : ByteArray := lit [46]
/-- Split at dots. -/
def splitDot (s : ByteArray) : List ByteArray := (splitB 46 (bs s)).map lit
theorem lit_bs (s : ByteArray) : lit (bs s) = s := bs_inj rfl
theorem F135_dot (s : ByteArray) : F135 (s, dot, ()) = some (Lib.indexByte (bs s) 46, ()) := by
  rw [F135_eq, F140_eq]
  have h1 : (Int.ofNat (ByteArray.size dot) == Int.ofNat 0) = false := rfl
  have h2 : (Int.ofNat (ByteArray.size dot) == Int.ofNat 1) = true := rfl
  have h3 : decide (Int.ofNat 0 < Int.ofNat (ByteArray.size dot)) = true := rfl
  rw [h1, h2, h3, F142_eq, xIndexByte_eq]
  simp only [cond_false, cond_true, Option.bind_some]
  cases hd : (dot.toList == s.toList) with
  | false => rfl
  | true =>
    have : dot.toList = s.toList := by simpa using hd
    rw [bs_toList, bs_toList] at this
    rw [← this]
    rfl
theorem split_inv (s : ByteArray) (n : Nat) (hn : n ≤ 1099511627776) : ∀ (k : Nat) (r : ByteArray) (a : List ByteArray) (i : Nat), k = (bs r).count 46 → r.size ≤ 1099511627776 → i + k = n → a.length = n + 1 → (a.take i).map bs ++ splitB 46 (bs r) = splitB 46 (bs s) →
    ∃ r' a', loop B130_0 (r, dot, (0 : Int), (n : Int), (i : Int), a, ()) = some (r', (n : Int), a', ()) ∧ a'.length = n + 1 ∧ (a'.take n).map bs ++ [bs r'] = splitB 46 (bs s)
  | 0, r, a, i, hk, hr, hi, ha, hs => by
    obtain rfl : i = n := by omega
    have hno : Lib.indexByte (bs r) 46 = -1 := by
      by_cases h : Lib.indexByte (bs r) 46 = -1
      · exact h
      · obtain ⟨_, _, _, _, h4⟩ := index_yes h
        omega
    refine ⟨r, a, loop_end ?_, ha, by rw [← hs, (index_no hno).1]⟩
    rw [B130_0_eq]
    have : decide ((i : Int) < (i : Int)) = false := by simp
    rw [this]
    rfl
  | k + 1, r, a, i, hk, hr, hi, ha, hs => by
    have hyes : Lib.indexByte (bs r) 46 ≠ -1 := fun h => by
      have := (index_no h).2
      omega
    obtain ⟨m, h1, h2, h3, h4⟩ := index_yes hyes
    have hsz : r.size = (bs r).length := bs_size r
    have hrest : bs (r.extract (m + 1) r.size) = (bs r).drop (m + 1) := by
      rw [bs_extract, hsz, List.take_length]
    obtain ⟨r', a', h5, h6, h7⟩ := split_inv s n hn k (r.extract (m + 1) r.size) (a.set i (r.extract 0 m)) (i + 1) (by rw [hrest]; omega) (by rw [bs_size, hrest, List.length_drop]; omega) (by omega) (by rw [List.length_set]; exact ha) (by
      rw [hrest, ← hs, h3, List.take_set, List.take_succ_eq_append_getElem (by omega), List.set_append]
      have hl : (a.take i).length = i := by rw [List.length_take]; omega
      rw [hl, if_neg (by omega), Nat.sub_self, List.set_cons_zero, List.map_append, List.append_assoc]
      simp [bs_extract])
    refine ⟨r', a', loop_step ?_ h5, h6, h7⟩
    rw [B130_0_eq, F135_dot, h1]
    have e1 : decide ((i : Int) < (n : Int)) = true := by simp; omega
    have e2 : decide ((m : Int) < Int.ofNat 0) = false := by simp
    have e3 : IntKind.wrap IntKind.i64 ((m : Int) + 0) = (m : Int) := by rw [wrap64 (by omega) (by omega)]; omega
    have e4 : (decide (Int.ofNat 0 ≤ (m : Int)) && decide ((m : Int) ≤ Int.ofNat r.size)) = true := by simp; omega
    have e5 : (decide (Int.ofNat 0 ≤ (i : Int)) && decide ((i : Int) < Int.ofNat a.length)) = true := by simp; omega
    have e6 : IntKind.wrap IntKind.i64 ((m : Int) + Int.ofNat (ByteArray.size dot)) = ((m + 1 : Nat) : Int) := by
      have : Int.ofNat (ByteArray.size dot) = 1 := rfl
      rw [this]; exact wrap64s m (by omega)
    have e7 : (decide (Int.ofNat 0 ≤ ((m + 1 : Nat) : Int)) && (decide (((m + 1 : Nat) : Int) ≤ Int.ofNat r.size) && decide (Int.ofNat r.size ≤ Int.ofNat r.size))) = true := by simp; omega
    have e8 : IntKind.wrap IntKind.i64 ((i : Int) + Int.ofNat 1) = ((i + 1 : Nat) : Int) := wrap64s i (by omega)
    have e9 : a[i]? = some (a[i]'(by omega)) := List.getElem?_eq_getElem _
    simp only [e1, e2, e3, e4, e5, e6, e7, e8, cond_true, cond_false, Int.toNat_natCast, Option.bind_some]
    rw [e9]
    rfl
theorem F123_dot (s : ByteArray) (hs : s.size ≤ 1099511627776) : F123 (s, dot, ()) = some (splitDot s, ()) := by
  rw [F123_eq, F130_eq]
  have h1 : (Int.negSucc 0 == Int.ofNat 0) = false := rfl
  have h2 : (ByteArray.toList dot == []) = false := by rw [bs_toList]; rfl
  have h3 : decide (Int.negSucc 0 < Int.ofNat 0) = true := rfl
  have h4 : F134 (s, dot, ()) = some ((((bs s).count 46 : Nat) : Int), ()) := by
    rw [F134_eq]
    have g1 : (Int.ofNat (ByteArray.size dot) == Int.ofNat 0) = false := rfl
    have g2 : (Int.ofNat (ByteArray.size dot) == Int.ofNat 1) = true := rfl
    have g3 : decide (Int.ofNat 0 < Int.ofNat (ByteArray.size dot)) = true := rfl
    rw [g1, g2, g3]
    simp only [cond_false, cond_true]
    rw [xCount_eq]
    rfl
  have hc : (bs s).count 46 ≤ (bs s).length := List.count_le_length
  have hsz := bs_size s
  rw [h1, h2, h3, h4]
  simp only [cond_false, cond_true, Option.bind_some]
  generalize hn : (bs s).count 46 = n
  have e1 : IntKind.wrap IntKind.i64 (Int.ofNat s.size + Int.ofNat 1) = ((s.size + 1 : Nat) : Int) := wrap64s s.size (by omega)
  have e2 : IntKind.wrap IntKind.i64 ((n : Int) + Int.ofNat 1) = ((n + 1 : Nat) : Int) := wrap64s n (by omega)
  have e3 : decide (((s.size + 1 : Nat) : Int) < ((n + 1 : Nat) : Int)) = false := by simp; omega
  rw [e1, e2, e3]
  simp only [cond_false]
  have e4 : (decide (Int.ofNat 0 ≤ ((n + 1 : Nat) : Int)) && (decide (((n + 1 : Nat) : Int) ≤ ((n + 1 : Nat) : Int)) && decide ((Int.ofNat 16 * ((n + 1 : Nat) : Int)) ≤ Int.ofNat 281474976710656) && decide (((n + 1 : Nat) : Int) ≤ Int.ofNat 9223372036854775807))) = true := by
    simp; omega
  have e5 : IntKind.wrap IntKind.i64 (((n + 1 : Nat) : Int) - Int.ofNat 1) = (n : Int) := by rw [show ((n + 1 : Nat) : Int) - Int.ofNat 1 = (n : Int) by simp]; exact wrap64 (by omega) (by omega)
  rw [e4, e5]
  simp only [cond_true, Int.toNat_natCast]
  obtain ⟨r', a', h5, h6, h7⟩ := split_inv s n (by omega) n s (List.replicate (n + 1) (lit [])) 0 hn.symm hs (by omega) (by simp) (by simp)
  have h5' : loop B130_0 (s, dot, Int.ofNat 0, (n : Int), Int.ofNat 0, List.replicate (n + 1) (lit []), ()) = some (r', (n : Int), a', ()) := h5
  rw [h5']
  simp only [Option.bind_some]
  have e6 : (decide (Int.ofNat 0 ≤ (n : Int)) && decide ((n : Int) < Int.ofNat a'.length)) = true := by simp; omega
  have e7 : a'[n]? = some (a'[n]'(by omega)) := List.getElem?_eq_getElem _
  have e8 : (decide (Int.ofNat 0 ≤ ((n + 1 : Nat) : Int)) && (decide (((n + 1 : Nat) : Int) ≤ Int.ofNat (List.length (a'.set n r'))) && decide (Int.ofNat (List.length (a'.set n r')) ≤ Int.ofNat (List.length (a'.set n r'))))) = true := by simp; omega
  simp only [e6, e2, cond_true, Int.toNat_natCast, e8, Nat.zero_add, List.drop_zero]
  rw [e7]
  simp only [Option.bind_some]
  have hl : List.take (n + 1) (a'.set n r') = a'.take n ++ [r'] := by
    rw [List.take_set, List.take_of_length_le (by omega), List.set_eq_take_append_cons_drop, if_pos (by omega), List.drop_of_length_le (by omega)]
  have he : a'.take n ++ [r'] = splitDot s := by
    unfold splitDot
    rw [← h7, List.map_append, List.map_map]
    have : (lit ∘ bs) = id := by funext x; exact lit_bs x
    rw [this, List.map_id]
    simp [lit_bs]
  rw [hl, he]
end Z
end Go.Vx
/-! Orders: whole numbers, bytes, words, versions. -/
namespace Go.Vx
open Go
set_option linter.unusedVariables false
/-- An order by a sign. -/
structure Lin {α : Type} (c : α → α → Int) : Prop where
  rng : ∀ x y, c x y = -1 ∨ c x y = 0 ∨ c x y = 1
  eq0 : ∀ x y, c x y = 0 ↔ x = y
  anti : ∀ x y, c y x = - c x y
  trans : ∀ x y z, c x y = -1 → c y z = -1 → c x z = -1
theorem Lin.self {α : Type} {c : α → α → Int} (h : Lin c) (x : α) : c x x = 0 := (h.eq0 x x).2 rfl
theorem Lin.pull {α β : Type} {c : α → α → Int} (h : Lin c) (f : β → α) (hf : ∀ x y, f x = f y → x = y) : Lin fun x y => c (f x) (f y) :=
  ⟨fun x y => h.rng _ _, fun x y => ⟨fun e => hf _ _ ((h.eq0 _ _).1 e), fun e => by rw [e]; exact h.self _⟩, fun x y => h.anti _ _, fun x y z => h.trans _ _ _⟩
/-- First by one, then by the other. -/
def orC (a b : Int) : Int := if a = 0 then b else a
theorem Lin.prod {α β : Type} {c : α → α → Int} {d : β → β → Int} (h : Lin c) (k : Lin d) : Lin fun (x y : α × β) => orC (c x.1 y.1) (d x.2 y.2) := by
  refine ⟨fun x y => ?_, fun x y => ?_, fun x y => ?_, fun x y z => ?_⟩
  · unfold orC; split
    · exact k.rng _ _
    · exact h.rng _ _
  · unfold orC
    split
    · rename_i e
      rw [k.eq0]
      have := (h.eq0 _ _).1 e
      exact ⟨fun e2 => Prod.ext this e2, fun e2 => by rw [e2]⟩
    · rename_i e
      exact ⟨fun e2 => absurd e2 e, fun e2 => absurd ((h.eq0 x.1 y.1).2 (by rw [e2])) e⟩
  · unfold orC
    rw [h.anti x.1 y.1, k.anti x.2 y.2]
    split
    · rename_i e; rw [if_pos (by omega)]
    · rename_i e; rw [if_neg (by omega)]
  · unfold orC
    intro h1 h2
    by_cases e1 : c x.1 y.1 = 0
    · rw [if_pos e1] at h1
      have e1' := (h.eq0 _ _).1 e1
      rw [e1']
      by_cases e2 : c y.1 z.1 = 0
      · rw [if_pos e2] at h2 ⊢
        exact k.trans _ _ _ h1 h2
      · rw [if_neg e2] at h2 ⊢
        exact h2
    · rw [if_neg e1] at h1
      by_cases e2 : c y.1 z.1 = 0
      · have e2' := (h.eq0 _ _).1 e2
        rw [← e2', if_neg e1]
        exact h1
      · rw [if_neg e2] at h2
        have := h.trans _ _ _ h1 h2
        rw [if_neg (by omega)]
        exact this
def listC {α : Type} (c : α → α → Int) : List α → List α → Int
  | [], [] => 0
  | [], _ :: _ => -1
  | _ :: _, [] => 1
  | x :: xs, y :: ys => orC (c x y) (listC c xs ys)
theorem Lin.list {α : Type} {c : α → α → Int} (h : Lin c) : Lin (listC c) := by
  have rng : ∀ x y, listC c x y = -1 ∨ listC c x y = 0 ∨ listC c x y = 1 := by
    intro x
    induction x with
    | nil => intro y; cases y <;> simp [listC]
    | cons a x ih =>
      intro y
      cases y with
      | nil => simp [listC]
      | cons b y =>
        simp only [listC, orC]
        split
        · exact ih y
        · exact h.rng _ _
  have eq0 : ∀ x y, listC c x y = 0 ↔ x = y := by
    intro x
    induction x with
    | nil => intro y; cases y <;> simp [listC]
    | cons a x ih =>
      intro y
      cases y with
      | nil => simp [listC]
      | cons b y =>
        simp only [listC, orC]
        split
        · rename_i e
          rw [ih y, (h.eq0 _ _).1 e]
          simp
        · rename_i e
          refine ⟨fun e2 => absurd e2 e, fun e2 => ?_⟩
          injection e2 with e3 _
          exact absurd ((h.eq0 _ _).2 e3) e
  have anti : ∀ x y, listC c y x = - listC c x y := by
    intro x
    induction x with
    | nil => intro y; cases y <;> simp [listC]
    | cons a x ih =>
      intro y
      cases y with
      | nil => simp [listC]
      | cons b y =>
        simp only [listC, orC]
        rw [h.anti a b, ih y]
        split
        · rename_i e; rw [if_pos (by omega)]
        · rename_i e; rw [if_neg (by omega)]
  refine ⟨rng, eq0, anti, ?_⟩
  intro x
  induction x with
  | nil =>
    intro y z h1 h2
    cases y with
    | nil => simp [listC] at h1
    | cons b y =>
      cases z with
      | nil => simp [listC] at h2
      | cons d z => rfl
  | cons a x ih =>
    intro y z h1 h2
    cases y with
    | nil => simp [listC] at h1
    | cons b y =>
      cases z with
      | nil => simp [listC] at h2
      | cons d z =>
        simp only [listC, orC] at h1 h2 ⊢
        by_cases e1 : c a b = 0
        · rw [if_pos e1] at h1
          rw [(h.eq0 _ _).1 e1]
          by_cases e2 : c b d = 0
          · rw [if_pos e2] at h2 ⊢
            exact ih y z h1 h2
          · rw [if_neg e2] at h2 ⊢
            exact h2
        · rw [if_neg e1] at h1
          by_cases e2 : c b d = 0
          · rw [← (h.eq0 _ _).1 e2, if_neg e1]
            exact h1
          · rw [if_neg e2] at h2
            have := h.trans _ _ _ h1 h2
            rw [if_neg (by omega)]
            exact this
theorem Lin.swo {α : Type} {c : α → α → Int} (h : Lin c) : Sort.SWO fun x y => decide (c x y < 0) := by
  have lt : ∀ x y, c x y < 0 ↔ c x y = -1 := fun x y => by have := h.rng x y; omega
  have tr : ∀ x y z, c x y = 1 → c y z = 1 → c x z = 1 := fun x y z h1 h2 => by
    have := h.trans z y x (by rw [h.anti y z]; omega) (by rw [h.anti x y]; omega)
    rw [h.anti x z] at this; omega
  refine ⟨fun x => by simp [h.self], fun x y z h1 h2 => ?_, fun x y z h1 h2 => ?_⟩
  · simp only [decide_eq_true_eq, lt] at *
    exact h.trans _ _ _ h1 h2
  · simp only [decide_eq_false_iff_not, lt] at *
    intro h3
    have r1 := h.rng x y
    have r2 := h.rng y z
    by_cases e1 : c x y = 0
    · rw [(h.eq0 _ _).1 e1] at h3; exact h2 h3
    · by_cases e2 : c y z = 0
      · rw [← (h.eq0 _ _).1 e2] at h3; exact h1 h3
      · have := tr x y z (by omega) (by omega); omega
/-! ### The orders -/
def cmpI (a b : Int) : Int := if a < b then -1 else if b < a then 1 else 0
theorem lin_cmpI : Lin cmpI := by
  refine ⟨fun x y => ?_, fun x y => ?_, fun x y => ?_, fun x y z => ?_⟩ <;> unfold cmpI
  · split
    · simp
    · split <;> simp
  · split
    · constructor <;> intro h <;> omega
    · split <;> constructor <;> intro h <;> omega
  · split <;> split <;> first | omega | (split <;> omega) | rfl
  · intro h1 h2
    split at h1
    · split at h2
      · rw [if_pos (by omega)]
      · split at h2 <;> omega
    · split at h1 <;> omega
def cmpU (a b : UInt8) : Int := cmpI a.toNat b.toNat
theorem lin_cmpU : Lin cmpU := lin_cmpI.pull (fun a : UInt8 => (a.toNat : Int)) fun x y h => UInt8.toNat_inj.1 (by omega)
/-- Texts as bytes. -/
abbrev cmpT : List UInt8 → List UInt8 → Int := listC cmpU
theorem lin_cmpT : Lin cmpT := lin_cmpU.list
theorem compareBytes_eq : ∀ a b, Lib.compareBytes a b = cmpT a b
  | [], [] => rfl
  | [], _ :: _ => rfl
  | _ :: _, [] => rfl
  | x :: a, y :: b => by
    have ih := compareBytes_eq a b
    by_cases h1 : x.toNat < y.toNat
    · have c : cmpU x y = -1 := by unfold cmpU cmpI; rw [if_pos (by omega)]
      simp [Lib.compareBytes, listC, orC, c, UInt8.lt_iff_toNat_lt, h1]
    · by_cases h2 : y.toNat < x.toNat
      · have c : cmpU x y = 1 := by unfold cmpU cmpI; rw [if_neg (by omega), if_pos (by omega)]
        simp [Lib.compareBytes, listC, orC, c, UInt8.lt_iff_toNat_lt, h1, h2]
      · have c : cmpU x y = 0 := by unfold cmpU cmpI; rw [if_neg (by omega), if_neg (by omega)]
        simp [Lib.compareBytes, listC, orC, c, UInt8.lt_iff_toNat_lt, h1, h2, ih]
theorem bytesLess_eq : ∀ a b, Op.bytesLess a b = decide (cmpT a b = -1)
  | [], [] => rfl
  | [], _ :: _ => rfl
  | _ :: _, [] => rfl
  | x :: a, y :: b => by
    unfold Op.bytesLess
    simp only [listC, cmpU, cmpI, orC]
    rw [bytesLess_eq a b]
    by_cases h1 : x < y
    · have := UInt8.lt_iff_toNat_lt.1 h1
      simp [h1, this]
    · have h1' : ¬ x.toNat < y.toNat := fun h => h1 (UInt8.lt_iff_toNat_lt.2 h)
      have h1'' : ¬ ((x.toNat : Int) < (y.toNat : Int)) := by omega
      by_cases h2 : x = y
      · subst h2; simp [h1]
      · have h3 : y.toNat < x.toNat := by
          rcases Nat.lt_or_ge y.toNat x.toNat with h | h
          · exact h
          · exact absurd (UInt8.toNat_inj.1 (by omega)) h2
        have h3' : (y.toNat : Int) < (x.toNat : Int) := by omega
        simp [h1, h2, h1'', h3']
def dig1 (c : UInt8) : Bool := decide (48 ≤ c.toNat) && decide (c.toNat ≤ 57)
def allDig (l : List UInt8) : Bool := l.all dig1 && !l.isEmpty
def wordKey (l : List UInt8) : Int × Int × List UInt8 := if allDig l then (0, (l.length : Int), l) else (1, 0, l)
/-- Words of what is ahead of a version. -/
def cmpW (a b : List UInt8) : Int := (fun (x y : Int × Int × List UInt8) => orC (cmpI x.1 y.1) (orC (cmpI x.2.1 y.2.1) (cmpT x.2.2 y.2.2))) (wordKey a) (wordKey b)
theorem lin_cmpW : Lin cmpW := (lin_cmpI.prod (lin_cmpI.prod lin_cmpT)).pull wordKey fun x y h => by
  unfold wordKey at h
  split at h <;> split at h <;> simp_all
theorem splitB_inj (c : UInt8) : ∀ x y, splitB c x = splitB c y → x = y
  | [], [], _ => rfl
  | [], b :: y, h => by
    have h1 := splitB_length c (b :: y)
    rw [← h] at h1
    unfold splitB at h
    split at h
    · have := splitB_ne c y
      injection h with _ h
      exact absurd h.symm this
    · split at h <;> cases h
  | a :: x, [], h => by
    unfold splitB at h
    split at h
    · have := splitB_ne c x
      injection h with _ h
      exact absurd h this
    · split at h <;> cases h
  | a :: x, b :: y, h => by
    have hx := splitB_ne c x
    have hy := splitB_ne c y
    rw [splitB, splitB] at h
    cases hsx : splitB c x with
    | nil => exact absurd hsx hx
    | cons w ws =>
      cases hsy : splitB c y with
      | nil => exact absurd hsy hy
      | cons v vs =>
        rw [hsx, hsy] at h
        by_cases ha : (a == c) = true
        · by_cases hb : (b == c) = true
          · rw [if_pos ha, if_pos hb] at h
            injection h with _ h
            rw [splitB_inj c x y (by rw [hsx, hsy, h])]
            have := (beq_iff_eq.1 ha).trans (beq_iff_eq.1 hb).symm
            rw [this]
          · rw [if_pos ha, if_neg hb] at h
            cases h
        · by_cases hb : (b == c) = true
          · rw [if_neg ha, if_pos hb] at h
            cases h
          · rw [if_neg ha, if_neg hb] at h
            injection h with h1 h2
            injection h1 with h3 h4
            rw [h3, splitB_inj c x y (by rw [hsx, hsy, h4, h2])]
def preKey (l : List UInt8) : Int × List (List UInt8) := if l = [] then (1, []) else (0, splitB 46 l)
/-- What is ahead of versions. -/
def cmpP (a b : List UInt8) : Int := (fun (x y : Int × List (List UInt8)) => orC (cmpI x.1 y.1) (listC cmpW x.2 y.2)) (preKey a) (preKey b)
theorem lin_cmpP : Lin cmpP := (lin_cmpI.prod lin_cmpW.list).pull preKey fun x y h => by
  unfold preKey at h
  split at h <;> split at h
  · simp_all
  · simp at h
  · simp at h
  · injection h with _ h; exact splitB_inj 46 _ _ h
/-- A version: r5's data. -/
abbrev Ver := Int × Int × Int × ByteArray × Unit
def verKey (v : Ver) : Int × Int × Int × List UInt8 := (v.1, v.2.1, v.2.2.1, bs v.2.2.2.1)
def cmpV (a b : Ver) : Int := (fun (x y : Int × Int × Int × List UInt8) => orC (cmpI x.1 y.1) (orC (cmpI x.2.1 y.2.1) (orC (cmpI x.2.2.1 y.2.2.1) (cmpP x.2.2.2 y.2.2.2)))) (verKey a) (verKey b)
theorem lin_cmpV : Lin cmpV := (lin_cmpI.prod (lin_cmpI.prod (lin_cmpI.prod lin_cmpP))).pull verKey fun x y h => by
  obtain ⟨a, b, c, d, u⟩ := x
  obtain ⟨a', b', c', d', u'⟩ := y
  simp only [verKey, Prod.mk.injEq] at h
  obtain ⟨h1, h2, h3, h4⟩ := h
  rw [h1, h2, h3, bs_inj h4]
abbrev Req := ByteArray × Ver
def reqKey (r : Req) : List UInt8 × Ver := (bs r.1, r.2)
def cmpR (a b : Req) : Int := (fun (x y : List UInt8 × Ver) => orC (cmpT x.1 y.1) (cmpV x.2 y.2)) (reqKey a) (reqKey b)
theorem lin_cmpR : Lin cmpR := (lin_cmpT.prod lin_cmpV).pull reqKey fun x y h => by
  simp only [reqKey, Prod.mk.injEq] at h
  exact Prod.ext (bs_inj h.1) h.2
end Go.Vx
/-! What the program's comparisons come to. -/
namespace Go.Vx.Z
open Go Go.Vx
set_option linter.unusedVariables false
theorem F104_is (a b : Int) : F104 (a, b, ()) = some (cmpI a b, ()) := by
  rw [F104_eq, F121_eq, F121_eq]
  simp only [beq_self_eq_true, Bool.not_true, Option.bind_some, cond_false]
  unfold cmpI
  by_cases h1 : a < b
  · simp [h1]
  · by_cases h2 : b < a
    · simp [h1, h2]
    · simp [h1, h2]
theorem F132_is (a b : ByteArray) : F132 (a, b, ()) = some (cmpT (bs a) (bs b), ()) := by
  rw [F132_eq, F136_eq, F136_eq]
  simp only [beq_self_eq_true, Bool.not_true, Option.bind_some, cond_false, bs_toList, bytesLess_eq]
  have r := lin_cmpT.rng (bs a) (bs b)
  by_cases h1 : cmpT (bs a) (bs b) = -1
  · simp [h1]
  · by_cases h2 : bs a = bs b
    · have := (lin_cmpT.eq0 (bs a) (bs b)).2 h2
      simp [h1, h2, this, lin_cmpT.self]
    · have : cmpT (bs a) (bs b) ≠ 0 := fun h => h2 ((lin_cmpT.eq0 _ _).1 h)
      have : cmpT (bs a) (bs b) = 1 := by omega
      have e : (bs a == bs b) = false := by simpa using h2
      simp [this, e]
theorem all_take (l : List UInt8) (i : Nat) (h : i < l.length) : (l.take (i + 1)).all dig1 = ((l.take i).all dig1 && dig1 l[i]) := by
  rw [List.take_succ_eq_append_getElem h, List.all_append]; simp
theorem F131_is (s : ByteArray) (hs : s.size ≤ 1099511627776) : F131 (s, ()) = some (allDig (bs s), ()) := by
  rw [F131_eq]
  have hl := bs_size s
  obtain ⟨e, h1, h2⟩ := loop_inv (B := B131_0) (fun p => ∃ i : Nat, i ≤ s.size ∧ (bs s |>.take i).all dig1 = true ∧ p = (s, Int.ofNat s.size, (i : Int), ())) (fun p => (Int.ofNat s.size - p.2.2.1).toNat)
    (fun e => (e = .inl (false, ()) ∧ (bs s).all dig1 = false) ∨ (e = .inr (s, ()) ∧ (bs s).all dig1 = true)) (by
      rintro p ⟨i, hi, ha, rfl⟩
      rw [B131_0_eq]
      by_cases hlt : i < s.size
      · have e1 : decide ((i : Int) < Int.ofNat s.size) = true := by simp; omega
        have e2 : decide (Int.ofNat 0 ≤ (i : Int)) = true := by simp
        have hb := bt_eq s i hlt
        have hil : i < (bs s).length := by omega
        simp only [e1, e2, Bool.and_self, cond_true]
        rw [hb]
        have hall : ∀ q, q < (bs s).length → dig1 ((bs s)[q]!) = false → (bs s).all dig1 = false := by
          intro q hq hd
          rw [List.all_eq_false]
          refine ⟨(bs s)[q], List.getElem_mem hq, ?_⟩
          rw [getElem!_pos (bs s) q hq] at hd
          simp [hd]
        by_cases h1 : ((bs s)[i].toNat : Int) < Int.ofNat 48
        · have e3 : decide (((bs s)[i].toNat : Int) < Int.ofNat 48) = true := by simp at h1 ⊢; exact h1
          rw [e3]
          refine .inr ⟨_, rfl, .inl ⟨rfl, hall i hil ?_⟩⟩
          rw [getElem!_pos (bs s) i hil]
          have : ¬ 48 ≤ (bs s)[i].toNat := by simp at h1; omega
          simp [dig1, this]
        · have e3 : decide (((bs s)[i].toNat : Int) < Int.ofNat 48) = false := by simp at h1 ⊢; exact h1
          rw [e3]
          simp only [cond_false]
          by_cases h2 : ((bs s)[i].toNat : Int) > Int.ofNat 57
          · have e4 : decide (((bs s)[i].toNat : Int) > Int.ofNat 57) = true := by simp at h2 ⊢; exact h2
            rw [e4]
            refine .inr ⟨_, rfl, .inl ⟨rfl, hall i hil ?_⟩⟩
            rw [getElem!_pos (bs s) i hil]
            have : ¬ (bs s)[i].toNat ≤ 57 := by simp at h2; omega
            simp [dig1, this]
          · have e4 : decide (((bs s)[i].toNat : Int) > Int.ofNat 57) = false := by simp at h2 ⊢; exact h2
            rw [e4]
            have hd : dig1 (bs s)[i] = true := by simp [dig1]; simp at h1 h2; omega
            refine .inl ⟨(s, Int.ofNat s.size, ((i + 1 : Nat) : Int), ()), ?_, ⟨i + 1, by omega, by rw [all_take _ _ hil, ha, hd]; rfl, rfl⟩, ?_⟩
            · simp only [cond_false]
              rw [show IntKind.wrap IntKind.i64 ((i : Int) + Int.ofNat 1) = ((i + 1 : Nat) : Int) from wrap64s i (by omega)]
            · simp; omega
      · have e1 : decide ((i : Int) < Int.ofNat s.size) = false := by simp; omega
        rw [e1]
        refine .inr ⟨_, rfl, .inr ⟨rfl, ?_⟩⟩
        rw [List.take_of_length_le (by omega)] at ha
        exact ha) (s, Int.ofNat s.size, Int.ofNat 0, ()) ⟨0, by omega, by simp, rfl⟩
  rw [h1]
  simp only [Option.bind_some]
  rcases h2 with ⟨rfl, h3⟩ | ⟨rfl, h3⟩
  · simp [allDig, h3]
  · simp only [Sum.elim_inr, allDig, h3, Bool.true_and, bs_toList]
    cases bs s <;> rfl
theorem F103_is (l : List Int) (hl : l.length < 1000) : F103 (l, ()) = some ((l.find? (· != 0)).getD 0, ()) := by
  rw [F103_eq]
  have key : ∀ (k i : Nat), i + k = l.length → loop B103_0 (Int.ofNat 0, l, Int.ofNat l.length, (i : Int), ()) = some (match (l.drop i).find? (· != 0) with | some y => .inl (y, ()) | none => .inr (0, ())) := by
    intro k
    induction k with
    | zero =>
      intro i hi
      refine loop_end ?_
      rw [B103_0_eq]
      have e1 : decide ((i : Int) < Int.ofNat l.length) = false := by simp; omega
      rw [e1, List.drop_of_length_le (by omega)]
      rfl
    | succ k ih =>
      intro i hi
      have e1 : decide ((i : Int) < Int.ofNat l.length) = true := by simp; omega
      have e2 : decide (Int.ofNat 0 ≤ (i : Int)) = true := by simp
      have e3 : l[i]? = some (l[i]'(by omega)) := List.getElem?_eq_getElem _
      have hd : l.drop i = l[i]'(by omega) :: l.drop (i + 1) := List.drop_eq_getElem_cons (by omega)
      by_cases hz : (l[i]'(by omega)) = 0
      · refine loop_step (q := (Int.ofNat 0, l, Int.ofNat l.length, ((i + 1 : Nat) : Int), ())) ?_ ?_
        · rw [B103_0_eq]
          simp only [e1, e2, cond_true, Int.toNat_natCast, e3, Option.bind_some]
          rw [show IntKind.wrap IntKind.i64 ((i : Int) + Int.ofNat 1) = ((i + 1 : Nat) : Int) from wrap64s i (by omega), hz]
          rfl
        · rw [ih (i + 1) (by omega), hd, List.find?_cons]
          simp [hz]
      · refine loop_end ?_
        rw [B103_0_eq]
        simp only [e1, e2, cond_true, Int.toNat_natCast, e3, Option.bind_some]
        rw [hd, List.find?_cons]
        have : ((l[i]'(by omega)) == Int.ofNat 0) = false := by simpa using hz
        have h2 : ((l[i]'(by omega)) != 0) = true := by simpa using hz
        rw [this, h2]
        rfl
  have := key l.length 0 (by omega)
  rw [show (((0 : Nat)) : Int) = Int.ofNat 0 from rfl] at this
  rw [this, List.drop_zero]
  cases l.find? (· != 0) <;> rfl
theorem wordKey_or (a b : List UInt8) : cmpW a b = if allDig a then (if allDig b then orC (cmpI a.length b.length) (cmpT a b) else -1) else (if allDig b then 1 else cmpT a b) := by
  unfold cmpW wordKey
  cases h1 : allDig a <;> cases h2 : allDig b <;> simp [orC, cmpI]
theorem F124_is (a b : ByteArray) (ha : a.size ≤ 1099511627776) (hb : b.size ≤ 1099511627776) : F124 (a, b, ()) = some (cmpW (bs a) (bs b), ()) := by
  have hsa : Int.ofNat a.size = ((bs a).length : Int) := by rw [bs_size]; rfl
  have hsb : Int.ofNat b.size = ((bs b).length : Int) := by rw [bs_size]; rfl
  rw [F124_eq, F131_is a ha, F131_is b hb, wordKey_or, F132_is, F104_is, hsa, hsb]
  simp only [Option.bind_some]
  rw [F103_is _ (by simp)]
  cases h1 : allDig (bs a) <;> cases h2 : allDig (bs b)
  · simp
  · simp
  · simp
  · simp only [cond_true, Option.bind_some, orC, if_true]
    by_cases h : cmpI (bs a).length (bs b).length = 0
    · by_cases h' : cmpT (bs a) (bs b) = 0
      · simp [h, h']
      · simp [h, h']
    · simp [h]
theorem F122_is (xs ys : List ByteArray) (hx : xs.length ≤ 1099511627776) (hxs : ∀ x ∈ xs, x.size ≤ 1099511627776) (hys : ∀ x ∈ ys, x.size ≤ 1099511627776) : F122 (xs, ys, ()) = some (listC cmpW (xs.map bs) (ys.map bs), ()) := by
  rw [F122_eq]
  have key : ∀ (k i : Nat), i + k = xs.length → ∃ e, loop B122_0 (xs, ys, xs, Int.ofNat xs.length, (i : Int), ()) = some e ∧
      Sum.elim (fun (p : Int × Unit) => some (p.1, ())) (fun (p : List ByteArray × List ByteArray × Unit) => bif decide (Int.ofNat (List.length p.1) < Int.ofNat (List.length p.2.1)) then some (Int.negSucc 0, ()) else some (Int.ofNat 0, ())) e = some (listC cmpW ((xs.drop i).map bs) ((ys.drop i).map bs), ()) ∨ ys.length < i := by
    intro k
    induction k with
    | zero =>
      intro i hi
      by_cases hy : ys.length < i
      · exact ⟨.inl (0, ()), .inr hy⟩
      refine ⟨.inr (xs, ys, ()), .inl ⟨loop_end ?_, ?_⟩⟩
      · rw [B122_0_eq]
        have e1 : decide ((i : Int) < Int.ofNat xs.length) = false := by simp; omega
        rw [e1]; rfl
      · rw [List.drop_of_length_le (l := xs) (by omega)]
        simp only [Sum.elim_inr]
        cases hd : ys.drop i with
        | nil =>
          have := List.drop_eq_nil_iff.1 hd
          have e1 : decide (Int.ofNat xs.length < Int.ofNat ys.length) = false := by simp; omega
          rw [e1]; rfl
        | cons y l =>
          have : i < ys.length := by
            rcases Nat.lt_or_ge i ys.length with h | h
            · exact h
            · rw [List.drop_of_length_le h] at hd; cases hd
          have e1 : decide (Int.ofNat xs.length < Int.ofNat ys.length) = true := by simp; omega
          rw [e1]; rfl
    | succ k ih =>
      intro i hi
      by_cases hy : ys.length < i
      · exact ⟨.inl (0, ()), .inr hy⟩
      have hil : i < xs.length := by omega
      have e1 : decide ((i : Int) < Int.ofNat xs.length) = true := by simp; omega
      have e2 : decide (Int.ofNat 0 ≤ (i : Int)) = true := by simp
      have e3 : xs[i]? = some xs[i] := List.getElem?_eq_getElem _
      have hdx : xs.drop i = xs[i] :: xs.drop (i + 1) := List.drop_eq_getElem_cons hil
      by_cases hyi : i < ys.length
      · have e4 : decide ((i : Int) ≥ Int.ofNat ys.length) = false := by simp; omega
        have e5 : ys[i]? = some ys[i] := List.getElem?_eq_getElem _
        have hdy : ys.drop i = ys[i] :: ys.drop (i + 1) := List.drop_eq_getElem_cons hyi
        have hw := F124_is xs[i] ys[i] (hxs _ (List.getElem_mem _)) (hys _ (List.getElem_mem _))
        by_cases hc : cmpW (bs xs[i]) (bs ys[i]) = 0
        · obtain ⟨e, h | h⟩ := ih (i + 1) (by omega)
          · obtain ⟨h1, h2⟩ := h
            refine ⟨e, .inl ⟨loop_step ?_ h1, ?_⟩⟩
            · rw [B122_0_eq]
              simp only [e1, e2, e4, cond_true, cond_false, Int.toNat_natCast, e3, e5, Option.bind_some, hw, hc]
              rw [show IntKind.wrap IntKind.i64 ((i : Int) + Int.ofNat 1) = ((i + 1 : Nat) : Int) from wrap64s i (by omega)]
              rfl
            · rw [h2, hdx, hdy]
              simp only [List.map_cons, listC, orC, hc, if_true]
          · omega
        · refine ⟨.inl (cmpW (bs xs[i]) (bs ys[i]), ()), .inl ⟨loop_end ?_, ?_⟩⟩
          · rw [B122_0_eq]
            have : (cmpW (bs xs[i]) (bs ys[i]) == Int.ofNat 0) = false := by simpa using hc
            simp only [e1, e2, e4, cond_true, cond_false, Int.toNat_natCast, e3, e5, Option.bind_some, hw, this, Bool.not_false]
          · rw [hdx, hdy]
            simp only [List.map_cons, listC, orC, hc, if_false, Sum.elim_inl]
      · have e4 : decide ((i : Int) ≥ Int.ofNat ys.length) = true := by simp; omega
        refine ⟨.inl (1, ()), .inl ⟨loop_end ?_, ?_⟩⟩
        · rw [B122_0_eq]
          simp only [e1, e2, e4, cond_true, Int.toNat_natCast, e3, Option.bind_some]
          rfl
        · rw [hdx, List.drop_of_length_le (l := ys) (by omega)]
          rfl
  obtain ⟨e, h | h⟩ := key xs.length 0 (by omega)
  · obtain ⟨h1, h2⟩ := h
    have h1' : loop B122_0 (xs, ys, xs, Int.ofNat xs.length, Int.ofNat 0, ()) = some e := h1
    rw [h1']
    simp only [Option.bind_some, List.drop_zero] at h2 ⊢
    exact h2
  · omega
theorem splitDot_sizes (s : ByteArray) : ∀ x ∈ splitDot s, x.size ≤ s.size := by
  have key : ∀ l : List UInt8, ∀ w ∈ splitB 46 l, w.length ≤ l.length := by
    intro l
    induction l with
    | nil => intro w hw; simp [splitB] at hw; subst hw; simp
    | cons x l ih =>
      intro w hw
      unfold splitB at hw
      split at hw
      · rcases List.mem_cons.1 hw with rfl | hw
        · simp
        · have := ih w hw; simp; omega
      · split at hw
        · simp at hw; subst hw; simp
        · rename_i v vs hs
          rcases List.mem_cons.1 hw with rfl | hw
          · have := ih v (by rw [hs]; simp); simp; omega
          · have := ih w (by rw [hs]; simp [hw]); simp; omega
  intro x hx
  unfold splitDot at hx
  obtain ⟨w, h1, rfl⟩ := List.mem_map.1 hx
  have := key _ w h1
  rw [bs_size, bs_size s, bs_lit]
  exact this
theorem F105_is (a b : ByteArray) (ha : a.size ≤ 1099511627000) (hb : b.size ≤ 1099511627000) : F105 (a, b, ()) = some (cmpP (bs a) (bs b), ()) := by
  rw [F105_eq]
  simp only [bs_toList]
  unfold cmpP preKey
  by_cases h1 : bs a = bs b
  · simp only [h1, beq_self_eq_true, cond_true]
    simp [orC, cmpI, lin_cmpW.list.self]
  · have e1 : (bs a == bs b) = false := by simpa using h1
    rw [e1]
    simp only [cond_false]
    by_cases h2 : bs a = []
    · have h3 : bs b ≠ [] := fun h => h1 (by rw [h2, h])
      simp [h2, h3, orC, cmpI]
    · have e2 : (bs a == []) = false := by simpa using h2
      rw [e2]
      simp only [cond_false]
      by_cases h3 : bs b = []
      · simp [h2, h3, orC, cmpI]
      · have e3 : (bs b == []) = false := by simpa using h3
        have hd : lit [46] = dot := rfl
        have hla : (splitDot a).length ≤ 1099511627776 := by
          unfold splitDot
          rw [List.length_map, splitB_length]
          have : (bs a).count 46 ≤ (bs a).length := List.count_le_length
          rw [← bs_size] at this
          omega
        rw [e3, hd, F123_dot a (by omega), F123_dot b (by omega)]
        simp only [cond_false, Option.bind_some]
        rw [F122_is _ _ hla (fun x hx => by have := splitDot_sizes a x hx; omega) (fun x hx => by have := splitDot_sizes b x hx; omega)]
        have hm : ∀ s, (splitDot s).map bs = splitB 46 (bs s) := fun s => by
          unfold splitDot
          rw [List.map_map]
          have : (bs ∘ lit) = id := by funext x; rfl
          rw [this, List.map_id]
        simp [h2, h3, orC, cmpI, hm]
theorem or4 (c1 c2 c3 c4 : Int) : (([c1, c2, c3, c4].find? (· != 0)).getD 0) = orC c1 (orC c2 (orC c3 c4)) := by
  unfold orC
  by_cases h1 : c1 = 0
  · by_cases h2 : c2 = 0
    · by_cases h3 : c3 = 0
      · by_cases h4 : c4 = 0 <;> simp [h1, h2, h3, h4]
      · simp [h1, h2, h3]
    · simp [h1, h2]
  · simp [h1]
/-- A version of bounded size. -/
def okV (v : Ver) : Bool := decide (v.2.2.2.1.size ≤ 1099511627000)
def okR (r : Req) : Bool := decide (r.1.size ≤ 1099511627000) && okV r.2
theorem F76_is (a b : Ver) (ha : okV a = true) (hb : okV b = true) : F76 (a.1, a.2.1, a.2.2.1, a.2.2.2.1, b.1, b.2.1, b.2.2.1, b.2.2.2.1, ()) = some (cmpV a b, ()) := by
  rw [F76_eq, F104_is, F104_is, F104_is, F105_is _ _ (by simpa [okV] using ha) (by simpa [okV] using hb)]
  simp only [Option.bind_some]
  rw [F103_is _ (by simp)]
  simp only [Option.bind_some, cmpV, verKey, or4]
theorem F75_is (a b : ByteArray) : F75 (a, b, ()) = some (cmpT (bs a) (bs b), ()) := by
  rw [F75_eq, F102_eq]
  simp only [Option.bind_some]
  rw [show xCompare a b = Lib.compareBytes (bs a) (bs b) from Lib.cmp_eq a b, compareBytes_eq]
theorem F55_is (a b : Req) (ha : okR a = true) (hb : okR b = true) : F55 (toP r0 a (toP r0 b ())) = some (cmpR a b, ()) := by
  simp only [okR, Bool.and_eq_true] at ha hb
  show F55 (a.1, a.2.1, a.2.2.1, a.2.2.2.1, a.2.2.2.2.1, b.1, b.2.1, b.2.2.1, b.2.2.2.1, b.2.2.2.2.1, ()) = _
  refine (F55_eq _ _ _ _ _ _ _ _ _ _).trans ?_
  rw [F75_is, F76_is a.2 b.2 ha.2 hb.2]
  simp only [Option.bind_some]
  have hc : cmpR a b = orC (cmpT (bs a.1) (bs b.1)) (cmpV a.2 b.2) := rfl
  rw [hc]
  generalize cmpT (bs a.1) (bs b.1) = c
  by_cases h : c = 0
  · subst h; rfl
  · have : (c == Int.ofNat 0) = false := by simpa using h
    rw [this]
    simp [orC, h]
end Go.Vx.Z
namespace Go.Proofs
open Go.Shelf
def Tryz.sortReq_ren : Go.Shelf.Ren := ⟨fun | 6 => 54 | 15 => 74 | 14 => 73 | 28 => 100 | 29 => 101 | 20 => 92 | 21 => 93 | 22 => 94 | 23 => 95 | 24 => 96 | 25 => 97 | 26 => 98 | 27 => 99 | 46 => 115 | 47 => 116 | 48 => 117 | 49 => 118 | 50 => 119 | 57 => 129 | n => n, fun | 22 => 29 | 24 => 43 | 25 => 103 | 3 => 3 | 39 => 125 | 0 => 0 | 53 => 148 | 55 => 150 | 4 => 4 | 46 => 141 | 45 => 140 | 50 => 145 | 5 => 5 | 9 => 9 | 66 => 163 | 70 => 167 | 76 => 173 | 77 => 174 | n => n, fun | n => n⟩
theorem Tryz.sortReq : Go.Proofs.SlLaysF0.n6 Tryz.prog Tryz.sortReq_ren := {
  mixed := by kernel_rfl,
  f6 := ⟨Tryz.f54.name, by decide, Tryz.func54.trans (congrArg some (by kernel_rfl))⟩,
  f14 := ⟨Tryz.f73.name, by decide, Tryz.func73.trans (congrArg some (by kernel_rfl))⟩,
  f15 := Tryz.func74.trans (congrArg some (by kernel_rfl)),
  f20 := ⟨Tryz.f92.name, by decide, Tryz.func92.trans (congrArg some (by kernel_rfl))⟩,
  f21 := ⟨Tryz.f93.name, by decide, Tryz.func93.trans (congrArg some (by kernel_rfl))⟩,
  f22 := ⟨Tryz.f94.name, by decide, Tryz.func94.trans (congrArg some (by kernel_rfl))⟩,
  f23 := ⟨Tryz.f95.name, by decide, Tryz.func95.trans (congrArg some (by kernel_rfl))⟩,
  f24 := ⟨Tryz.f96.name, by decide, Tryz.func96.trans (congrArg some (by kernel_rfl))⟩,
  f25 := ⟨Tryz.f97.name, by decide, Tryz.func97.trans (congrArg some (by kernel_rfl))⟩,
  f26 := ⟨Tryz.f98.name, by decide, Tryz.func98.trans (congrArg some (by kernel_rfl))⟩,
  f27 := ⟨Tryz.f99.name, by decide, Tryz.func99.trans (congrArg some (by kernel_rfl))⟩,
  f28 := Tryz.func100.trans (congrArg some (by kernel_rfl)),
  f29 := Tryz.func101.trans (congrArg some (by kernel_rfl)),
  f46 := ⟨Tryz.f115.name, by decide, Tryz.func115.trans (congrArg some (by kernel_rfl))⟩,
  f47 := Tryz.func116.trans (congrArg some (by kernel_rfl)),
  f48 := Tryz.func117.trans (congrArg some (by kernel_rfl)),
  f49 := ⟨Tryz.f118.name, by decide, Tryz.func118.trans (congrArg some (by kernel_rfl))⟩,
  f50 := ⟨Tryz.f119.name, by decide, Tryz.func119.trans (congrArg some (by kernel_rfl))⟩,
  f57 := ⟨Tryz.f129.name, by decide, Tryz.func129.trans (congrArg some (by kernel_rfl))⟩,
  t0 := Tryz.underlying0,
  a0 := Tryz.isAgg0,
  z0 := Tryz.sizeOf0,
  v0 := Tryz.zeroValue0,
  t3 := Tryz.underlying3,
  a3 := Tryz.isAgg3,
  z3 := Tryz.sizeOf3,
  v3 := Tryz.zeroValue3,
  t4 := Tryz.underlying4,
  a4 := Tryz.isAgg4,
  z4 := Tryz.sizeOf4,
  v4 := Tryz.zeroValue4,
  t5 := Tryz.underlying5,
  a5 := Tryz.isAgg5,
  z5 := Tryz.sizeOf5,
  v5 := Tryz.zeroValue5,
  t9 := Tryz.underlying9,
  a9 := Tryz.isAgg9,
  z9 := Tryz.sizeOf9,
  v9 := Tryz.zeroValue9,
  t22 := Tryz.underlying29,
  a22 := Tryz.isAgg29,
  z22 := Tryz.sizeOf29,
  v22 := Tryz.zeroValue29,
  t25 := Tryz.underlying103,
  a25 := Tryz.isAgg103,
  z25 := Tryz.sizeOf103,
  v25 := Tryz.zeroValue103,
  t39 := Tryz.underlying125,
  a39 := Tryz.isAgg125,
  z39 := Tryz.sizeOf125,
  v39 := Tryz.zeroValue125,
  t45 := Tryz.underlying140,
  a45 := Tryz.isAgg140,
  z45 := Tryz.sizeOf140,
  v45 := Tryz.zeroValue140,
  t46 := Tryz.underlying141,
  a46 := Tryz.isAgg141,
  z46 := Tryz.sizeOf141,
  v46 := Tryz.zeroValue141,
  t50 := Tryz.underlying145,
  a50 := Tryz.isAgg145,
  z50 := Tryz.sizeOf145,
  v50 := Tryz.zeroValue145,
  t53 := Tryz.underlying148,
  a53 := Tryz.isAgg148,
  z53 := Tryz.sizeOf148,
  v53 := Tryz.zeroValue148,
  t55 := Tryz.underlying150,
  a55 := Tryz.isAgg150,
  z55 := Tryz.sizeOf150,
  v55 := Tryz.zeroValue150,
  t66 := Tryz.underlying163,
  a66 := Tryz.isAgg163,
  z66 := Tryz.sizeOf163,
  v66 := Tryz.zeroValue163,
  t70 := Tryz.underlying167,
  a70 := Tryz.isAgg167,
  z70 := Tryz.sizeOf167,
  v70 := Tryz.zeroValue167,
  t76 := Tryz.underlying173,
  a76 := Tryz.isAgg173,
  z76 := Tryz.sizeOf173,
  v76 := Tryz.zeroValue173,
  t77 := Tryz.underlying174,
  a77 := Tryz.isAgg174,
  z77 := Tryz.sizeOf174,
  v77 := Tryz.zeroValue174 }
end Go.Proofs
namespace Go.Vx.Z
open Go Go.Vx Go.Proofs
set_option linter.unusedVariables false
@[reducible] def sh83 : Shape := ⟨[(0, .one (.clo 84 [some (100000, 0)]))], [(100000, .box [.d (.list r0)])]⟩
@[reducible] def out83 : Shape := ⟨[(0, .one (.own 200000))], [(100000, .box [.d (.list r0)]), (200000, .lst 43 r0 false)]⟩
@[reducible] def sh54 : Shape := ⟨[(0, .one (.own 100000)), (1, .one (.fn 55))], [(100000, .lst 43 r0 false)]⟩
@[reducible] def out54 : Shape := ⟨[], [(100000, .lst 43 r0 false)]⟩
def F54 : sh54.D → Option out54.D := FSort r0 43 55 okR cmpR
noncomputable def b83 : Code := Tryz.f83.body.getD .skip
noncomputable def cx83 : Cx := ⟨Tryz.prog, [e110], [4], 5, [], []⟩
noncomputable def F83 : sh83.D → Option out83.D := func cx83 Tryz.f83 b83 sh83 out83
theorem F83_eq (xs : List r0.D) : F83 (xs, ()) = bif decide (List.length xs ≤ 2513169434916) then some (xs, xs, ()) else none := by
  show (F110 (xs, ())).bind _ = _
  unfold F110
  cases h : decide (List.length xs ≤ 2513169434916) with
  | false => simp only [h, cond_false]; rfl
  | true => simp only [h, cond_true]; kernel_rfl
noncomputable def e54 : FE := ⟨54, sh54, out54, F54⟩
noncomputable def e83 : FE := ⟨83, sh83, out83, F83⟩
theorem ok54 : FEOK Tryz.prog e54 :=
  sort_ok (P := Tryz.prog) (ρ := Tryz.sortReq_ren) Tryz.sortReq (fun p cap fv w => AnyF.slices_SortFunc_none Tryz.sortReq p cap fv w) (enters_of Tryz.func54 (by kernel_rfl) rfl) (r := r0) (e := 43) (g := 55) Tryz.isAgg43 Tryz.sizeOf43
    (Fc := F55) ok55 (enters_of Tryz.func55 (by kernel_rfl) rfl) cmpR okR F55_is lin_cmpR.swo
theorem ok83 : FEOK Tryz.prog e83 := func_ok (cx := cx83) (fn := Tryz.f83) (c := b83) (all_fe (P := Tryz.prog) (l := [e110]) ⟨ok110, trivial⟩) (by kernel_rfl) (by kernel_rfl) (by kernel_rfl) (by kernel_rfl) (by kernel_rfl) (needs_of (l := []) (by kernel_rfl) trivial)
end Go.Vx.Z
namespace Go.Vx.Z
open Go Go.Vx Go.Proofs
set_option linter.unusedVariables false
set_option maxRecDepth 1000000
set_option maxHeartbeats 4000000


end Go.Vx.Z
