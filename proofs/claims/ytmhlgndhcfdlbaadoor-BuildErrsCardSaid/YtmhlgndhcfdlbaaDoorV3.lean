import Derived.Test.YtmhlgndhcfdlbaaDoorV2
import Derived.Lib.Bytealg
import Derived.Sort.Statements
import Derived.Shelf.SlSortCmp.NoneTotal
set_option linter.unusedSimpArgs false
namespace Go.Vx.Z
open Go Go.Vx Go.Proofs
set_option linter.unusedVariables false
set_option maxRecDepth 1000000
set_option maxHeartbeats 4000000
theorem F19_eq (x0 : List (Ty.D r2)) (x1 : List (Ty.D r3)) (x2 : ByteArray) (x3 x4 : List (Ty.D r0)) (x5 : List (Ty.D r4)) : F19 (x0, x1, x2, x3, x4, x5, ()) = some (x2, x3, x4, x5, x0, x1, ()) := by kernel_rfl
theorem B28_0_eq (x0 : ByteArray) (x1 : List (Ty.D r4)) (x2 x3 : Int) (x4 x5 : ByteArray) (x6 x7 x8 : Int) (x9 : ByteArray) : B28_0 (x0, x1, x2, x3, x4, x5, x6, x7, x8, x9, ()) = bif decide (x3 < x2) then bif decide (Int.ofNat 0 ≤ x3) then Option.bind x1[Int.toNat x3]? fun (y : ByteArray × ByteArray × Int × Int × Int × ByteArray × Unit) => bif ByteArray.toList y.1 == ByteArray.toList x0 then
 some (Sum.inr (Sum.inl (true, y.1, y.2.1, y.2.2.1, y.2.2.2.1, y.2.2.2.2.1, y.2.2.2.2.2.1, ()))) else some (Sum.inl (x0, x1, x2, IntKind.wrap IntKind.i64 (x3 + Int.ofNat 1), x4, x5, x6, x7, x8, x9, ())) else none else some (Sum.inr (Sum.inr (x4, x5, x6, x7, x8, x9, ()))) := by kernel_rfl
theorem F28_eq (x0 : ByteArray) (x1 x2 : List (Ty.D r0)) (x3 : List (Ty.D r4)) (x4 : List (Ty.D r2)) (x5 : List (Ty.D r3)) (x6 : ByteArray) : F28 (x0, x1, x2, x3, x4, x5, x6, ()) = Option.bind (loop B28_0 (x6, x3, Int.ofNat (List.length x3), Int.ofNat 0, (lit []), (lit []), Int.ofNat 0, Int.ofNat 0, Int.ofNat 0, (lit []), ())) fun (r :
 Bool × ByteArray × ByteArray × Int × Int × Int × ByteArray × Unit ⊕ ByteArray × ByteArray × Int × Int × Int × ByteArray × Unit) => Sum.elim (fun (p : Bool × ByteArray × ByteArray × Int × Int × Int × ByteArray × Unit) => some (p.2.1, p.2.2.1, p.2.2.2.1, p.2.2.2.2.1, p.2.2.2.2.2.1, p.2.2.2.2.2.2.1, p.1, ())) (fun (p : ByteArray × ByteArray × Int × Int × Int × ByteArray × Unit) => some
 ((lit []), (lit []), Int.ofNat 0, Int.ofNat 0, Int.ofNat 0, (lit []), false, ())) r := by kernel_rfl
theorem F26_eq (x0 : List (Ty.D r0)) : F26 (x0, ()) = bif match x0 with | [] => true | head :: tail => false then both (some ([], ())) (bif decide (0 + List.length x0 ≤ 2513169434916) then some ([] ++ x0, ()) else none) else bif decide (0 + List.length x0 ≤ 2513169434916) then some ([] ++ x0, ()) else none := by kernel_rfl
theorem B67_0_eq (x0 : ByteArray) (x1 : List (Ty.D r2)) (x2 x3 : Int) (x4 : ByteArray) : B67_0 (x0, x1, x2, x3, x4, ()) = bif decide (x3 < x2) then bif decide (Int.ofNat 0 ≤ x3) then Option.bind x1[Int.toNat x3]? fun (y : ByteArray × List (Int × Int × Int × ByteArray × List (ByteArray × Int × Int × Int × ByteArray × Unit) × ByteArray × ByteArray × Unit) × Unit) =>
 bif ByteArray.toList y.1 == ByteArray.toList x0 then some (Sum.inr (Sum.inl (true, y.1, y.2.1, ()))) else some (Sum.inl (x0, x1, x2, IntKind.wrap IntKind.i64 (x3 + Int.ofNat 1), x4, ())) else none else some (Sum.inr (Sum.inr (x4, ()))) := by kernel_rfl
theorem F67_eq (x0 : List (Ty.D r2)) (x1 : List (Ty.D r3)) (x2 : ByteArray) : F67 (x0, x1, x2, ()) = Option.bind (loop B67_0 (x2, x0, Int.ofNat (List.length x0), Int.ofNat 0, (lit []), ())) fun (r : Bool × ByteArray × List (Int × Int × Int × ByteArray × List (ByteArray × Int × Int × Int × ByteArray × Unit) × ByteArray × ByteArray × Unit) × Unit ⊕ ByteArray × Unit) => Sum.elim (fun (p : Bool ×
 ByteArray × List (Int × Int × Int × ByteArray × List (ByteArray × Int × Int × Int × ByteArray × Unit) × ByteArray × ByteArray × Unit) × Unit) => some (p.2.1, p.2.2.1, p.1, ())) (fun (p : ByteArray × Unit) => some ((lit []), [], false, ())) r := by kernel_rfl
theorem B42_0_eq (x0 : List (Ty.D r1)) (x1 x2 x3 x4 x5 : Int) (x6 : ByteArray) (x7 x8 x9 : Int) (x10 x11 x12 : ByteArray) : B42_0 (x0, x1, x2, x3, x4, x5, x6, x7, x8, x9, x10, x11, x12, ()) = bif decide (x2 < x1) then bif decide (Int.ofNat 0 ≤ x2) then Option.bind x0[Int.toNat x2]? fun (y : Int × Int × Int ×
 ByteArray × List (ByteArray × Int × Int × Int × ByteArray × Unit) × ByteArray × ByteArray × Unit) => bif y.1 == x3 && (y.2.1 == x4 && (y.2.2.1 == x5 && ByteArray.toList y.2.2.2.1 == ByteArray.toList x6)) then some (Sum.inr (Sum.inl (true, y.1, y.2.1, y.2.2.1, y.2.2.2.1, y.2.2.2.2.1, y.2.2.2.2.2.1, y.2.2.2.2.2.2.1, ()))) else some (Sum.inl
 (x0, x1, IntKind.wrap IntKind.i64 (x2 + Int.ofNat 1), x3, x4, x5, x6, x7, x8, x9, x10, x11, x12, ())) else none else some (Sum.inr (Sum.inr (x7, x8, x9, x10, x11, x12, ()))) := by kernel_rfl
theorem F42_eq (x0 : List (Ty.D r2)) (x1 : List (Ty.D r3)) (x2 : ByteArray) (x3 x4 x5 : Int) (x6 : ByteArray) : F42 (x0, x1, x2, x3, x4, x5, x6, ()) = Option.bind (F67 (x0, x1, x2, ())) fun (r : ByteArray × List (Int × Int × Int × ByteArray × List (ByteArray × Int × Int × Int × ByteArray × Unit) × ByteArray × ByteArray × Unit) × Bool × Unit) => Option.bind (loop B42_0
 (r.2.1, Int.ofNat (List.length r.2.1), Int.ofNat 0, x3, x4, x5, x6, Int.ofNat 0, Int.ofNat 0, Int.ofNat 0, (lit []), (lit []), (lit []), ())) fun (r : Bool × Int × Int × Int × ByteArray × List (ByteArray × Int × Int × Int × ByteArray × Unit) × ByteArray × ByteArray × Unit ⊕ Int × Int × Int × ByteArray × ByteArray × ByteArray × Unit) => Sum.elim (fun (p : Bool × Int × Int × Int × ByteArray ×
 List (ByteArray × Int × Int × Int × ByteArray × Unit) × ByteArray × ByteArray × Unit) => some (p.2.1, p.2.2.1, p.2.2.2.1, p.2.2.2.2.1, p.2.2.2.2.2.1, p.2.2.2.2.2.2.1, p.2.2.2.2.2.2.2.1, p.1, ())) (fun (p : Int × Int × Int × ByteArray × ByteArray × ByteArray × Unit) => some (Int.ofNat 0, Int.ofNat 0, Int.ofNat 0, (lit []), [], (lit []), (lit []), false, ())) r := by kernel_rfl
theorem F29_eq (x0 : List (Ty.D r2)) (x1 : List (Ty.D r3)) (x2 : ByteArray) (x3 x4 x5 : Int) (x6 : ByteArray) : F29 (x0, x1, x2, x3, x4, x5, x6, ()) = Option.bind (F42 (x0, x1, x2, x3, x4, x5, x6, ())) fun (r : Int × Int × Int × ByteArray × List (ByteArray × Int × Int × Int × ByteArray × Unit) × ByteArray × ByteArray × Bool × Unit) => Option.bind (F26 (r.2.2.2.2.1, ()))
 fun (r_1 : List (ByteArray × Int × Int × Int × ByteArray × Unit) × Unit) => some (r.1, r.2.1, r.2.2.1, r.2.2.2.1, r_1.1, r.2.2.2.2.2.1, r.2.2.2.2.2.2.1, r.2.2.2.2.2.2.2.1, ()) := by kernel_rfl
theorem B84_0_eq (x0 : List (Ty.D r0)) (x1 x2 : Int) (x3 : ByteArray) (x4 x5 x6 : Int) (x7 : ByteArray) : B84_0 (x0, x1, x2, x3, x4, x5, x6, x7, ()) = bif decide (x2 < x1) then bif decide (Int.ofNat 0 ≤ x2) then Option.bind x0[Int.toNat x2]? fun (y : ByteArray × Int × Int × Int × ByteArray × Unit) => bif ByteArray.toList x3 == ByteArray.toList y.1 && (x4 == y.2.1 &&
 (x5 == y.2.2.1 && (x6 == y.2.2.2.1 && ByteArray.toList x7 == ByteArray.toList y.2.2.2.2.1))) then some (Sum.inr (Sum.inl (x2, ()))) else some (Sum.inl (x0, x1, IntKind.wrap IntKind.i64 (x2 + Int.ofNat 1), x3, x4, x5, x6, x7, ())) else none else some (Sum.inr (Sum.inr ())) := by kernel_rfl
theorem F84_eq (x0 : List (Ty.D r0)) (x1 : ByteArray) (x2 x3 x4 : Int) (x5 : ByteArray) : F84 (x0, x1, x2, x3, x4, x5, ()) = Option.bind (loop B84_0 (x0, Int.ofNat (List.length x0), Int.ofNat 0, x1, x2, x3, x4, x5, ())) fun (r : Int × Unit ⊕ Unit) => Sum.elim (fun (p : Int × Unit) => some (p.1, ())) (fun (p : Unit) => some (Int.negSucc 0, ())) r := by kernel_rfl
theorem F69_eq (x0 : List (Ty.D r0)) (x1 : ByteArray) (x2 x3 x4 : Int) (x5 : ByteArray) : F69 (x0, x1, x2, x3, x4, x5, ()) = Option.bind (F84 (x0, x1, x2, x3, x4, x5, ())) fun (r : Int × Unit) => some (decide (r.1 ≥ Int.ofNat 0), ()) := by kernel_rfl
theorem F45_eq (x0 : ByteArray) (x1 x2 : List (Ty.D r0)) (x3 : List (Ty.D r4)) (x4 : List (Ty.D r2)) (x5 : List (Ty.D r3)) (x6 : ByteArray) (x7 x8 x9 : Int) (x10 : ByteArray) : F45 (x0, x1, x2, x3, x4, x5, x6, x7, x8, x9, x10, ()) = Option.bind (F69 (x2, x6, x7, x8, x9, x10, ())) fun (r : Bool × Unit) => some (r.1, ()) := by kernel_rfl
theorem B61_0_eq (x0 : Int) (x1 : List Int) (x2 x3 : Int) : B61_0 (x0, x1, x2, x3, ()) = bif decide (x3 < x2) then bif decide (Int.ofNat 0 ≤ x3) then Option.bind x1[Int.toNat x3]? fun (y : Int) => bif !y == x0 then some (Sum.inr (Sum.inl (y, ()))) else some (Sum.inl (x0, x1, x2, IntKind.wrap IntKind.i64 (x3 + Int.ofNat 1), ())) else none else some (Sum.inr (Sum.inr (x0, ()))) := by kernel_rfl
theorem F61_eq (x0 : List Int) : F61 (x0, ()) = Option.bind (loop B61_0 (Int.ofNat 0, x0, Int.ofNat (List.length x0), Int.ofNat 0, ())) fun (r : Int × Unit ⊕ Int × Unit) => Sum.elim (fun (p : Int × Unit) => some (p.1, ())) (fun (p : Int × Unit) => some (p.1, ())) r := by kernel_rfl
theorem F78_eq (x0 : Int) : F78 (x0, ()) = some (!x0 == x0, ()) := by kernel_rfl
theorem F62_eq (x0 x1 : Int) : F62 (x0, x1, ()) = Option.bind (F78 (x0, ())) fun (r : Bool × Unit) => Option.bind (F78 (x1, ())) fun (r_1 : Bool × Unit) => bif r.1 then bif r_1.1 then some (Int.ofNat 0, ()) else some (Int.negSucc 0, ()) else bif r_1.1 then some (Int.ofNat 1, ()) else bif decide (x0 < x1) then some (Int.negSucc 0, ())
 else bif decide (x0 > x1) then some (Int.ofNat 1, ()) else some (Int.ofNat 0, ()) := by kernel_rfl
theorem B87_0_eq (x0 : ByteArray) (x1 x2 : Int) : B87_0 (x0, x1, x2, ()) = bif decide (x2 < x1) then bif decide (Int.ofNat 0 ≤ x2) && decide (x2 < Int.ofNat (ByteArray.size x0)) then bif decide (bt x0 x2 < Int.ofNat 48) then some (Sum.inr (Sum.inl (false, ()))) else bif decide (Int.ofNat 0 ≤ x2) && decide (x2 < Int.ofNat (ByteArray.size x0)) then
 bif decide (bt x0 x2 > Int.ofNat 57) then some (Sum.inr (Sum.inl (false, ()))) else some (Sum.inl (x0, x1, IntKind.wrap IntKind.i64 (x2 + Int.ofNat 1), ())) else none else none else some (Sum.inr (Sum.inr (x0, ()))) := by kernel_rfl
theorem F87_eq (x0 : ByteArray) : F87 (x0, ()) = Option.bind (loop B87_0 (x0, Int.ofNat (ByteArray.size x0), Int.ofNat 0, ())) fun (r : Bool × Unit ⊕ ByteArray × Unit) => Sum.elim (fun (p : Bool × Unit) => some (p.1, ())) (fun (p : ByteArray × Unit) => some (!ByteArray.toList p.1 == [], ())) r := by kernel_rfl
theorem F92_eq (x0 : ByteArray) : F92 (x0, ()) = some (!ByteArray.toList x0 == ByteArray.toList x0, ()) := by kernel_rfl
theorem F88_eq (x0 x1 : ByteArray) : F88 (x0, x1, ()) = Option.bind (F92 (x0, ())) fun (r : Bool × Unit) => Option.bind (F92 (x1, ())) fun (r_1 : Bool × Unit) => bif r.1 then bif r_1.1 then some (Int.ofNat 0, ()) else some (Int.negSucc 0, ()) else bif r_1.1 then some (Int.ofNat 1, ()) else bif Op.bytesLess (ByteArray.toList x0) (ByteArray.toList x1) then some (Int.negSucc 0, ()) else bif
 !(Op.bytesLess (ByteArray.toList x0) (ByteArray.toList x1) || ByteArray.toList x0 == ByteArray.toList x1) then some (Int.ofNat 1, ()) else some (Int.ofNat 0, ()) := by kernel_rfl
theorem F81_eq (x0 x1 : ByteArray) : F81 (x0, x1, ()) = Option.bind (F87 (x0, ())) fun (r : Bool × Unit) => Option.bind (F87 (x1, ())) fun (r_1 : Bool × Unit) => bif r.1 then bif r_1.1 then Option.bind (F62 (Int.ofNat (ByteArray.size x0), Int.ofNat (ByteArray.size x1), ())) fun (r : Int × Unit) => Option.bind (F88 (x0, x1, ())) fun (r_2 : Int × Unit) =>
 Option.bind (F61 ([r.1, r_2.1], ())) fun (r : Int × Unit) => some (r.1, ()) else bif r.1 then some (Int.negSucc 0, ()) else bif r_1.1 then some (Int.ofNat 1, ()) else Option.bind (F88 (x0, x1, ())) fun (r : Int × Unit) => some (r.1, ()) else bif r.1 then some (Int.negSucc 0, ()) else bif r_1.1 then some (Int.ofNat 1, ())
 else Option.bind (F88 (x0, x1, ())) fun (r : Int × Unit) => some (r.1, ()) := by kernel_rfl
theorem B79_0_eq (x0 x1 x2 : List ByteArray) (x3 x4 : Int) : B79_0 (x0, x1, x2, x3, x4, ()) = bif decide (x4 < x3) then bif decide (Int.ofNat 0 ≤ x4) then Option.bind x2[Int.toNat x4]? fun (y : ByteArray) => bif decide (x4 ≥ Int.ofNat (List.length x1)) then some (Sum.inr (Sum.inl (Int.ofNat 1, ()))) else bif decide (Int.ofNat 0 ≤ x4) then Option.bind x1[Int.toNat x4]? fun (y_1 : ByteArray) =>
 Option.bind (F81 (y, y_1, ())) fun (r : Int × Unit) => bif !r.1 == Int.ofNat 0 then some (Sum.inr (Sum.inl (r.1, ()))) else some (Sum.inl (x0, x1, x2, x3, IntKind.wrap IntKind.i64 (x4 + Int.ofNat 1), ())) else none else none else some (Sum.inr (Sum.inr (x0, x1, ()))) := by kernel_rfl
theorem F79_eq (x0 x1 : List ByteArray) : F79 (x0, x1, ()) = Option.bind (loop B79_0 (x0, x1, x0, Int.ofNat (List.length x0), Int.ofNat 0, ())) fun (r : Int × Unit ⊕ List ByteArray × List ByteArray × Unit) => Sum.elim (fun (p : Int × Unit) => some (p.1, ())) (fun (p : List ByteArray × List ByteArray × Unit) =>
 bif decide (Int.ofNat (List.length p.1) < Int.ofNat (List.length p.2.1)) then some (Int.negSucc 0, ()) else some (Int.ofNat 0, ())) r := by kernel_rfl
theorem F98_eq (x0 : ByteArray) (x1 : Int) : F98 (x0, x1, ()) = some (xIndexByte x0 x1, ()) := by kernel_rfl
theorem F96_eq (x0 x1 : ByteArray) : F96 (x0, x1, ()) = bif Int.ofNat (ByteArray.size x1) == Int.ofNat 0 then some (Int.ofNat 0, ()) else bif ByteArray.toList x1 == ByteArray.toList x0 then some (Int.ofNat 0, ()) else bif Int.ofNat (ByteArray.size x1) == Int.ofNat 1 then bif decide (Int.ofNat 0 < Int.ofNat (ByteArray.size x1)) then
 Option.bind (F98 (x0, bt x1 (Int.ofNat 0), ())) fun (r : Int × Unit) => some (r.1, ()) else none else bif decide (Int.ofNat (ByteArray.size x1) ≥ Int.ofNat (ByteArray.size x0)) then some (Int.negSucc 0, ()) else none := by kernel_rfl
theorem F91_eq (x0 x1 : ByteArray) : F91 (x0, x1, ()) = Option.bind (F96 (x0, x1, ())) fun (r : Int × Unit) => some (r.1, ()) := by kernel_rfl
theorem B90_0_eq (x0 x1 : ByteArray) (x2 : Int) : B90_0 (x0, x1, x2, ()) = Option.bind (F91 (x0, x1, ())) fun (r : Int × Unit) => bif r.1 == Int.negSucc 0 then some (Sum.inr (x2, ())) else bif decide (Int.ofNat 0 ≤ IntKind.wrap IntKind.i64 (r.1 + Int.ofNat (ByteArray.size x1))) && (decide (IntKind.wrap IntKind.i64 (r.1 + Int.ofNat (ByteArray.size x1)) ≤ Int.ofNat (ByteArray.size x0)) &&
 decide (Int.ofNat (ByteArray.size x0) ≤ Int.ofNat (ByteArray.size x0))) then some (Sum.inl (ByteArray.extract x0 (Int.toNat (IntKind.wrap IntKind.i64 (r.1 + Int.ofNat (ByteArray.size x1)))) (Int.toNat (Int.ofNat (ByteArray.size x0))), x1, IntKind.wrap IntKind.i64 (x2 + Int.ofNat 1), ())) else none := by kernel_rfl
theorem F90_eq (x0 x1 : ByteArray) : F90 (x0, x1, ()) = bif Int.ofNat (ByteArray.size x1) == Int.ofNat 0 then none else bif Int.ofNat (ByteArray.size x1) == Int.ofNat 1 then bif decide (Int.ofNat 0 < Int.ofNat (ByteArray.size x1)) then some (xCount x0 (bt x1 (Int.ofNat 0)), ()) else none
 else Option.bind (loop B90_0 (x0, x1, Int.ofNat 0, ())) fun (r : Int × Unit) => some (r.1, ()) := by kernel_rfl
theorem B86_0_eq (x0 x1 : ByteArray) (x2 x3 x4 : Int) (x5 : List ByteArray) : B86_0 (x0, x1, x2, x3, x4, x5, ()) = bif decide (x4 < x3) then Option.bind (F91 (x0, x1, ())) fun (r : Int × Unit) => bif decide (r.1 < Int.ofNat 0) then some (Sum.inr (x0, x4, x5, ())) else bif decide (Int.ofNat 0 ≤ IntKind.wrap IntKind.i64 (r.1 + x2)) &&
 decide (IntKind.wrap IntKind.i64 (r.1 + x2) ≤ Int.ofNat (ByteArray.size x0)) then bif decide (Int.ofNat 0 ≤ x4) && decide (x4 < Int.ofNat (List.length x5)) then Option.bind x5[Int.toNat x4]? fun (y : ByteArray) => bif decide (Int.ofNat 0 ≤ IntKind.wrap IntKind.i64 (r.1 + Int.ofNat (ByteArray.size x1))) && (decide (IntKind.wrap IntKind.i64 (r.1 + Int.ofNat (ByteArray.size x1)) ≤
 Int.ofNat (ByteArray.size x0)) && decide (Int.ofNat (ByteArray.size x0) ≤ Int.ofNat (ByteArray.size x0))) then some (Sum.inl (ByteArray.extract x0 (Int.toNat (IntKind.wrap IntKind.i64 (r.1 + Int.ofNat (ByteArray.size x1)))) (Int.toNat (Int.ofNat (ByteArray.size x0))), x1, x2, x3, IntKind.wrap IntKind.i64 (x4 + Int.ofNat 1), List.set x5 (Int.toNat x4)
 (ByteArray.extract x0 0 (Int.toNat (IntKind.wrap IntKind.i64 (r.1 + x2)))), ())) else none else none else none else some (Sum.inr (x0, x4, x5, ())) := by kernel_rfl
theorem F86_eq (x0 x1 : ByteArray) (x2 x3 : Int) : F86 (x0, x1, x2, x3, ()) = bif x3 == Int.ofNat 0 then some ([], ()) else bif ByteArray.toList x1 == [] then none else bif decide (x3 < Int.ofNat 0) then Option.bind (F90 (x0, x1, ())) fun (r : Int × Unit) => bif decide (Int.ofNat 0 ≤ bif decide (IntKind.wrap IntKind.i64 (Int.ofNat (ByteArray.size x0) + Int.ofNat 1) <
 IntKind.wrap IntKind.i64 (r.1 + Int.ofNat 1)) then IntKind.wrap IntKind.i64 (Int.ofNat (ByteArray.size x0) + Int.ofNat 1) else IntKind.wrap IntKind.i64 (r.1 + Int.ofNat 1)) && (decide ((bif decide (IntKind.wrap IntKind.i64 (Int.ofNat (ByteArray.size x0) + Int.ofNat 1) < IntKind.wrap IntKind.i64 (r.1 + Int.ofNat 1)) then IntKind.wrap IntKind.i64 (Int.ofNat (ByteArray.size x0) + Int.ofNat 1)
 else IntKind.wrap IntKind.i64 (r.1 + Int.ofNat 1)) ≤ bif decide (IntKind.wrap IntKind.i64 (Int.ofNat (ByteArray.size x0) + Int.ofNat 1) < IntKind.wrap IntKind.i64 (r.1 + Int.ofNat 1)) then IntKind.wrap IntKind.i64 (Int.ofNat (ByteArray.size x0) + Int.ofNat 1) else IntKind.wrap IntKind.i64 (r.1 + Int.ofNat 1)) && decide ((Int.ofNat 16 * bif decide
 (IntKind.wrap IntKind.i64 (Int.ofNat (ByteArray.size x0) + Int.ofNat 1) < IntKind.wrap IntKind.i64 (r.1 + Int.ofNat 1)) then IntKind.wrap IntKind.i64 (Int.ofNat (ByteArray.size x0) + Int.ofNat 1) else IntKind.wrap IntKind.i64 (r.1 + Int.ofNat 1)) ≤ Int.ofNat 281474976710656) && decide ((bif decide (IntKind.wrap IntKind.i64 (Int.ofNat (ByteArray.size x0) + Int.ofNat 1) <
 IntKind.wrap IntKind.i64 (r.1 + Int.ofNat 1)) then IntKind.wrap IntKind.i64 (Int.ofNat (ByteArray.size x0) + Int.ofNat 1) else IntKind.wrap IntKind.i64 (r.1 + Int.ofNat 1)) ≤ Int.ofNat 9223372036854775807)) then Option.bind (loop B86_0 (x0, x1, x2, IntKind.wrap IntKind.i64 ((bif decide (IntKind.wrap IntKind.i64 (Int.ofNat (ByteArray.size x0) + Int.ofNat 1) <
 IntKind.wrap IntKind.i64 (r.1 + Int.ofNat 1)) then IntKind.wrap IntKind.i64 (Int.ofNat (ByteArray.size x0) + Int.ofNat 1) else IntKind.wrap IntKind.i64 (r.1 + Int.ofNat 1)) - Int.ofNat 1), Int.ofNat 0, List.replicate (Int.toNat (bif decide (IntKind.wrap IntKind.i64 (Int.ofNat (ByteArray.size x0) + Int.ofNat 1) < IntKind.wrap IntKind.i64 (r.1 + Int.ofNat 1)) then
 IntKind.wrap IntKind.i64 (Int.ofNat (ByteArray.size x0) + Int.ofNat 1) else IntKind.wrap IntKind.i64 (r.1 + Int.ofNat 1))) (lit []), ())) fun (r : ByteArray × Int × List ByteArray × Unit) => bif decide (Int.ofNat 0 ≤ r.2.1) && decide (r.2.1 < Int.ofNat (List.length r.2.2.1)) then Option.bind r.2.2.1[Int.toNat r.2.1]? fun (y : ByteArray) => bif
 decide (Int.ofNat 0 ≤ IntKind.wrap IntKind.i64 (r.2.1 + Int.ofNat 1)) && (decide (IntKind.wrap IntKind.i64 (r.2.1 + Int.ofNat 1) ≤ Int.ofNat (List.length (List.set r.2.2.1 (Int.toNat r.2.1) r.1))) && decide (Int.ofNat (List.length (List.set r.2.2.1 (Int.toNat r.2.1) r.1)) ≤ Int.ofNat (List.length (List.set r.2.2.1 (Int.toNat r.2.1) r.1)))) then some (List.drop 0
 (List.take (0 + Int.toNat (IntKind.wrap IntKind.i64 (r.2.1 + Int.ofNat 1))) (List.set r.2.2.1 (Int.toNat r.2.1) r.1)), ()) else none else none else none else bif decide (Int.ofNat 0 ≤ bif decide (IntKind.wrap IntKind.i64 (Int.ofNat (ByteArray.size x0) + Int.ofNat 1) < x3) then IntKind.wrap IntKind.i64 (Int.ofNat (ByteArray.size x0) + Int.ofNat 1) else x3) && (decide
 ((bif decide (IntKind.wrap IntKind.i64 (Int.ofNat (ByteArray.size x0) + Int.ofNat 1) < x3) then IntKind.wrap IntKind.i64 (Int.ofNat (ByteArray.size x0) + Int.ofNat 1) else x3) ≤ bif decide (IntKind.wrap IntKind.i64 (Int.ofNat (ByteArray.size x0) + Int.ofNat 1) < x3) then IntKind.wrap IntKind.i64 (Int.ofNat (ByteArray.size x0) + Int.ofNat 1) else x3) && decide ((Int.ofNat 16 *
 bif decide (IntKind.wrap IntKind.i64 (Int.ofNat (ByteArray.size x0) + Int.ofNat 1) < x3) then IntKind.wrap IntKind.i64 (Int.ofNat (ByteArray.size x0) + Int.ofNat 1) else x3) ≤ Int.ofNat 281474976710656) && decide ((bif decide (IntKind.wrap IntKind.i64 (Int.ofNat (ByteArray.size x0) + Int.ofNat 1) < x3) then IntKind.wrap IntKind.i64 (Int.ofNat (ByteArray.size x0) + Int.ofNat 1) else x3) ≤
 Int.ofNat 9223372036854775807)) then Option.bind (loop B86_0 (x0, x1, x2, IntKind.wrap IntKind.i64 ((bif decide (IntKind.wrap IntKind.i64 (Int.ofNat (ByteArray.size x0) + Int.ofNat 1) < x3) then IntKind.wrap IntKind.i64 (Int.ofNat (ByteArray.size x0) + Int.ofNat 1) else x3) - Int.ofNat 1), Int.ofNat 0, List.replicate (Int.toNat
 (bif decide (IntKind.wrap IntKind.i64 (Int.ofNat (ByteArray.size x0) + Int.ofNat 1) < x3) then IntKind.wrap IntKind.i64 (Int.ofNat (ByteArray.size x0) + Int.ofNat 1) else x3)) (lit []), ())) fun (r : ByteArray × Int × List ByteArray × Unit) => bif decide (Int.ofNat 0 ≤ r.2.1) && decide (r.2.1 < Int.ofNat (List.length r.2.2.1)) then Option.bind r.2.2.1[Int.toNat r.2.1]? fun (y : ByteArray) => bif
 decide (Int.ofNat 0 ≤ IntKind.wrap IntKind.i64 (r.2.1 + Int.ofNat 1)) && (decide (IntKind.wrap IntKind.i64 (r.2.1 + Int.ofNat 1) ≤ Int.ofNat (List.length (List.set r.2.2.1 (Int.toNat r.2.1) r.1))) && decide (Int.ofNat (List.length (List.set r.2.2.1 (Int.toNat r.2.1) r.1)) ≤ Int.ofNat (List.length (List.set r.2.2.1 (Int.toNat r.2.1) r.1)))) then some (List.drop 0
 (List.take (0 + Int.toNat (IntKind.wrap IntKind.i64 (r.2.1 + Int.ofNat 1))) (List.set r.2.2.1 (Int.toNat r.2.1) r.1)), ()) else none else none else none := by kernel_rfl
theorem F80_eq (x0 x1 : ByteArray) : F80 (x0, x1, ()) = Option.bind (F86 (x0, x1, Int.ofNat 0, Int.negSucc 0, ())) fun (r : List ByteArray × Unit) => some (r.1, ()) := by kernel_rfl
theorem F63_eq (x0 x1 : ByteArray) : F63 (x0, x1, ()) = bif ByteArray.toList x0 == ByteArray.toList x1 then some (Int.ofNat 0, ()) else bif ByteArray.toList x0 == [] then some (Int.ofNat 1, ()) else bif ByteArray.toList x1 == [] then some (Int.negSucc 0, ()) else Option.bind (F80 (x0, (lit [46]), ())) fun (r : List ByteArray × Unit) => Option.bind (F80 (x1, (lit [46]), ()))
 fun (r_1 : List ByteArray × Unit) => Option.bind (F79 (r.1, r_1.1, ())) fun (r : Int × Unit) => some (r.1, ()) := by kernel_rfl
theorem F39_eq (x0 x1 x2 : Int) (x3 : ByteArray) (x4 x5 x6 : Int) (x7 : ByteArray) : F39 (x0, x1, x2, x3, x4, x5, x6, x7, ()) = Option.bind (F62 (x0, x4, ())) fun (r : Int × Unit) => Option.bind (F62 (x1, x5, ())) fun (r_1 : Int × Unit) => Option.bind (F62 (x2, x6, ())) fun (r_2 : Int × Unit) => Option.bind (F63 (x3, x7, ())) fun (r_3 : Int × Unit) =>
 Option.bind (F61 ([r.1, r_1.1, r_2.1, r_3.1], ())) fun (r : Int × Unit) => some (r.1, ()) := by kernel_rfl
theorem F48_eq (x0 x1 x2 : Int) (x3 x4 : ByteArray) (x5 x6 x7 : Int) (x8 x9 : ByteArray) (x10 x11 : List (Ty.D r0)) (x12 : List (Ty.D r4)) (x13 : List (Ty.D r2)) (x14 : List (Ty.D r3)) : F48 (x0, x1, x2, x3, x4, x5, x6, x7, x8, x9, x10, x11, x12, x13, x14, ()) = Option.bind (F39 (x0, x1, x2, x3, x5, x6, x7, x8, ())) fun (r : Int × Unit) =>
 bif decide (r.1 ≥ Int.ofNat 0) then some (true, x4, x5, x6, x7, x8, x9, x10, x11, x12, x13, x14, ()) else Option.bind (F45 (x9, x10, x11, x12, x13, x14, x4, x0, x1, x2, x3, ())) fun (r : Bool × Unit) => some (r.1, x4, x5, x6, x7, x8, x9, x10, x11, x12, x13, x14, ()) := by kernel_rfl
theorem B70_0_eq (x0 x1 : Int) (x2 : List (Ty.D r5)) (x3 : ByteArray) (x4 x5 x6 : Int) (x7 x8 : ByteArray) (x9 x10 : List (Ty.D r0)) (x11 : List (Ty.D r4)) (x12 : List (Ty.D r2)) (x13 : List (Ty.D r3)) : B70_0 (x0, x1, x2, x3, x4, x5, x6, x7, x8, x9, x10, x11, x12, x13, ()) = bif decide (x1 < x0) then bif decide (Int.ofNat 0 ≤ x1) && decide (x1 < Int.ofNat (List.length x2)) then
 Option.bind x2[Int.toNat x1]? fun (y : Int × Int × Int × ByteArray × Unit) => Option.bind (F48 (y.1, y.2.1, y.2.2.1, y.2.2.2.1, x3, x4, x5, x6, x7, x8, x9, x10, x11, x12, x13, ())) fun (r : Bool × ByteArray × Int × Int × Int × ByteArray × ByteArray × List (ByteArray × Int × Int × Int × ByteArray × Unit) × List (ByteArray × Int × Int × Int × ByteArray × Unit) ×
 List (ByteArray × ByteArray × Int × Int × Int × ByteArray × Unit) × List (ByteArray × List (Int × Int × Int × ByteArray × List (ByteArray × Int × Int × Int × ByteArray × Unit) × ByteArray × ByteArray × Unit) × Unit) × List (ByteArray × ByteArray × Bool × Bool × Int × Int × Int × ByteArray × Int × Unit) × Unit) => bif r.1 then some (Sum.inr (Sum.inl
 (x1, x2, r.2.1, r.2.2.1, r.2.2.2.1, r.2.2.2.2.1, r.2.2.2.2.2.1, r.2.2.2.2.2.2.1, r.2.2.2.2.2.2.2.1, r.2.2.2.2.2.2.2.2.1, r.2.2.2.2.2.2.2.2.2.1, r.2.2.2.2.2.2.2.2.2.2.1, r.2.2.2.2.2.2.2.2.2.2.2.1, ()))) else some (Sum.inl (x0, IntKind.wrap IntKind.i64 (x1 + Int.ofNat 1), x2, r.2.1, r.2.2.1, r.2.2.2.1, r.2.2.2.2.1,
 r.2.2.2.2.2.1, r.2.2.2.2.2.2.1, r.2.2.2.2.2.2.2.1, r.2.2.2.2.2.2.2.2.1, r.2.2.2.2.2.2.2.2.2.1, r.2.2.2.2.2.2.2.2.2.2.1, r.2.2.2.2.2.2.2.2.2.2.2.1, ())) else none else some (Sum.inr (Sum.inr (x2, x3, x4, x5, x6, x7, x8, x9, x10, x11, x12, x13, ()))) := by kernel_rfl
theorem F70_eq (x0 : List (Ty.D r5)) (x1 : ByteArray) (x2 x3 x4 : Int) (x5 x6 : ByteArray) (x7 x8 : List (Ty.D r0)) (x9 : List (Ty.D r4)) (x10 : List (Ty.D r2)) (x11 : List (Ty.D r3)) : F70 (x0, x1, x2, x3, x4, x5, x6, x7, x8, x9, x10, x11, ()) = Option.bind (loop B70_0 (Int.ofNat (List.length x0), Int.ofNat 0, x0, x1, x2, x3, x4, x5, x6, x7, x8, x9, x10, x11, ())) fun (r : Int ×
 List (Int × Int × Int × ByteArray × Unit) × ByteArray × Int × Int × Int × ByteArray × ByteArray × List (ByteArray × Int × Int × Int × ByteArray × Unit) × List (ByteArray × Int × Int × Int × ByteArray × Unit) × List (ByteArray × ByteArray × Int × Int × Int × ByteArray × Unit) × List (ByteArray × List (Int × Int × Int × ByteArray × List (ByteArray × Int × Int × Int × ByteArray × Unit) ×
 ByteArray × ByteArray × Unit) × Unit) × List (ByteArray × ByteArray × Bool × Bool × Int × Int × Int × ByteArray × Int × Unit) × Unit ⊕ List (Int × Int × Int × ByteArray × Unit) × ByteArray × Int × Int × Int × ByteArray × ByteArray × List (ByteArray × Int × Int × Int × ByteArray × Unit) × List (ByteArray × Int × Int × Int × ByteArray × Unit) ×
 List (ByteArray × ByteArray × Int × Int × Int × ByteArray × Unit) × List (ByteArray × List (Int × Int × Int × ByteArray × List (ByteArray × Int × Int × Int × ByteArray × Unit) × ByteArray × ByteArray × Unit) × Unit) × List (ByteArray × ByteArray × Bool × Bool × Int × Int × Int × ByteArray × Int × Unit) × Unit) => Sum.elim (fun (p : Int × List (Int × Int × Int × ByteArray × Unit) × ByteArray ×
 Int × Int × Int × ByteArray × ByteArray × List (ByteArray × Int × Int × Int × ByteArray × Unit) × List (ByteArray × Int × Int × Int × ByteArray × Unit) × List (ByteArray × ByteArray × Int × Int × Int × ByteArray × Unit) × List (ByteArray × List (Int × Int × Int × ByteArray × List (ByteArray × Int × Int × Int × ByteArray × Unit) × ByteArray × ByteArray × Unit) × Unit) × List (ByteArray ×
 ByteArray × Bool × Bool × Int × Int × Int × ByteArray × Int × Unit) × Unit) => some (p.1, p.2.1, p.2.2.1, p.2.2.2.1, p.2.2.2.2.1, p.2.2.2.2.2.1, p.2.2.2.2.2.2.1, p.2.2.2.2.2.2.2.1, p.2.2.2.2.2.2.2.2.1, p.2.2.2.2.2.2.2.2.2.1, p.2.2.2.2.2.2.2.2.2.2.1, p.2.2.2.2.2.2.2.2.2.2.2.1, p.2.2.2.2.2.2.2.2.2.2.2.2.1, ())) (fun (p : List (Int × Int × Int × ByteArray × Unit) × ByteArray × Int × Int × Int ×
 ByteArray × ByteArray × List (ByteArray × Int × Int × Int × ByteArray × Unit) × List (ByteArray × Int × Int × Int × ByteArray × Unit) × List (ByteArray × ByteArray × Int × Int × Int × ByteArray × Unit) × List (ByteArray × List (Int × Int × Int × ByteArray × List (ByteArray × Int × Int × Int × ByteArray × Unit) × ByteArray × ByteArray × Unit) × Unit) × List (ByteArray ×
 ByteArray × Bool × Bool × Int × Int × Int × ByteArray × Int × Unit) × Unit) => some (Int.negSucc 0, p.1, p.2.1, p.2.2.1, p.2.2.2.1, p.2.2.2.2.1, p.2.2.2.2.2.1, p.2.2.2.2.2.2.1, p.2.2.2.2.2.2.2.1, p.2.2.2.2.2.2.2.2.1, p.2.2.2.2.2.2.2.2.2.1, p.2.2.2.2.2.2.2.2.2.2.1, p.2.2.2.2.2.2.2.2.2.2.2.1, ())) r := by kernel_rfl
theorem B46_0_eq (x0 x1 : Int) (x2 : List (Ty.D r5)) (x3 : ByteArray) (x4 x5 x6 : Int) (x7 x8 : ByteArray) (x9 x10 : List (Ty.D r0)) (x11 : List (Ty.D r4)) (x12 : List (Ty.D r2)) (x13 : List (Ty.D r3)) : B46_0 (x0, x1, x2, x3, x4, x5, x6, x7, x8, x9, x10, x11, x12, x13, ()) = bif decide (x1 < Int.ofNat (List.length x2)) then
 bif decide (Int.ofNat 0 ≤ x1) && decide (x1 < Int.ofNat (List.length x2)) then Option.bind x2[Int.toNat x1]? fun (y : Int × Int × Int × ByteArray × Unit) => Option.bind (F48 (y.1, y.2.1, y.2.2.1, y.2.2.2.1, x3, x4, x5, x6, x7, x8, x9, x10, x11, x12, x13, ())) fun (r : Bool × ByteArray × Int × Int × Int × ByteArray × ByteArray × List (ByteArray × Int × Int × Int × ByteArray × Unit) ×
 List (ByteArray × Int × Int × Int × ByteArray × Unit) × List (ByteArray × ByteArray × Int × Int × Int × ByteArray × Unit) × List (ByteArray × List (Int × Int × Int × ByteArray × List (ByteArray × Int × Int × Int × ByteArray × Unit) × ByteArray × ByteArray × Unit) × Unit) × List (ByteArray × ByteArray × Bool × Bool × Int × Int × Int × ByteArray × Int × Unit) × Unit) => bif !r.1 then
 bif decide (Int.ofNat 0 ≤ x0) && decide (x0 < Int.ofNat (List.length x2)) then Option.bind x2[Int.toNat x0]? fun (y_1 : Int × Int × Int × ByteArray × Unit) => some (Sum.inl (IntKind.wrap IntKind.i64 (x0 + Int.ofNat 1), IntKind.wrap IntKind.i64 (x1 + Int.ofNat 1), List.set x2 (Int.toNat x0) (y.1, y.2.1, y.2.2.1, y.2.2.2.1, ()), r.2.1, r.2.2.1,
 r.2.2.2.1, r.2.2.2.2.1, r.2.2.2.2.2.1, r.2.2.2.2.2.2.1, r.2.2.2.2.2.2.2.1, r.2.2.2.2.2.2.2.2.1, r.2.2.2.2.2.2.2.2.2.1, r.2.2.2.2.2.2.2.2.2.2.1, r.2.2.2.2.2.2.2.2.2.2.2.1, ())) else none else some (Sum.inl (x0, IntKind.wrap IntKind.i64 (x1 + Int.ofNat 1), x2, r.2.1, r.2.2.1, r.2.2.2.1, r.2.2.2.2.1, r.2.2.2.2.2.1, r.2.2.2.2.2.2.1, r.2.2.2.2.2.2.2.1, r.2.2.2.2.2.2.2.2.1, r.2.2.2.2.2.2.2.2.2.1,
 r.2.2.2.2.2.2.2.2.2.2.1, r.2.2.2.2.2.2.2.2.2.2.2.1, ())) else none else some (Sum.inr (x0, x2, x3, x4, x5, x6, x7, x8, x9, x10, x11, x12, x13, ())) := by kernel_rfl
theorem F46_eq (x0 : List (Ty.D r5)) (x1 : ByteArray) (x2 x3 x4 : Int) (x5 x6 : ByteArray) (x7 x8 : List (Ty.D r0)) (x9 : List (Ty.D r4)) (x10 : List (Ty.D r2)) (x11 : List (Ty.D r3)) : F46 (x0, x1, x2, x3, x4, x5, x6, x7, x8, x9, x10, x11, ()) = Option.bind (F70 (x0, x1, x2, x3, x4, x5, x6, x7, x8, x9, x10, x11, ())) fun (r : Int × List (Int × Int × Int × ByteArray × Unit) × ByteArray × Int ×
 Int × Int × ByteArray × ByteArray × List (ByteArray × Int × Int × Int × ByteArray × Unit) × List (ByteArray × Int × Int × Int × ByteArray × Unit) × List (ByteArray × ByteArray × Int × Int × Int × ByteArray × Unit) × List (ByteArray × List (Int × Int × Int × ByteArray × List (ByteArray × Int × Int × Int × ByteArray × Unit) × ByteArray × ByteArray × Unit) × Unit) ×
 List (ByteArray × ByteArray × Bool × Bool × Int × Int × Int × ByteArray × Int × Unit) × Unit) => bif r.1 == Int.negSucc 0 then some (r.2.1, r.2.1, r.2.2.1, r.2.2.2.1, r.2.2.2.2.1, r.2.2.2.2.2.1, r.2.2.2.2.2.2.1, r.2.2.2.2.2.2.2.1, r.2.2.2.2.2.2.2.2.1, r.2.2.2.2.2.2.2.2.2.1, r.2.2.2.2.2.2.2.2.2.2.1, r.2.2.2.2.2.2.2.2.2.2.2.1, r.2.2.2.2.2.2.2.2.2.2.2.2.1, ()) else Option.bind (loop B46_0
 (r.1, IntKind.wrap IntKind.i64 (r.1 + Int.ofNat 1), r.2.1, r.2.2.1, r.2.2.2.1, r.2.2.2.2.1, r.2.2.2.2.2.1, r.2.2.2.2.2.2.1, r.2.2.2.2.2.2.2.1, r.2.2.2.2.2.2.2.2.1, r.2.2.2.2.2.2.2.2.2.1, r.2.2.2.2.2.2.2.2.2.2.1, r.2.2.2.2.2.2.2.2.2.2.2.1, r.2.2.2.2.2.2.2.2.2.2.2.2.1, ())) fun (r : Int × List (Int × Int × Int × ByteArray × Unit) × ByteArray × Int × Int × Int × ByteArray × ByteArray ×
 List (ByteArray × Int × Int × Int × ByteArray × Unit) × List (ByteArray × Int × Int × Int × ByteArray × Unit) × List (ByteArray × ByteArray × Int × Int × Int × ByteArray × Unit) × List (ByteArray × List (Int × Int × Int × ByteArray × List (ByteArray × Int × Int × Int × ByteArray × Unit) × ByteArray × ByteArray × Unit) × Unit) × List (ByteArray ×
 ByteArray × Bool × Bool × Int × Int × Int × ByteArray × Int × Unit) × Unit) => bif decide (Int.ofNat 0 ≤ r.1) && (decide (r.1 ≤ Int.ofNat (List.length r.2.1)) && (decide (Int.ofNat (List.length r.2.1) ≤ Int.ofNat (List.length r.2.1)) && decide (Int.ofNat (List.length r.2.1) ≤ Int.ofNat (List.length r.2.1)))) then bif decide (Int.ofNat 0 ≤ r.1) && (decide (r.1 ≤ Int.ofNat (List.length
 (List.take (0 + Int.toNat r.1) r.2.1 ++ List.replicate (0 + Int.toNat (Int.ofNat (List.length r.2.1)) - (0 + Int.toNat r.1)) (Int.ofNat 0, Int.ofNat 0, Int.ofNat 0, (lit []), ()) ++ List.drop (0 + Int.toNat r.1 + (0 + Int.toNat (Int.ofNat (List.length r.2.1)) - (0 + Int.toNat r.1))) r.2.1))) && decide (Int.ofNat (List.length (List.take (0 + Int.toNat r.1) r.2.1 ++
 List.replicate (0 + Int.toNat (Int.ofNat (List.length r.2.1)) - (0 + Int.toNat r.1)) (Int.ofNat 0, Int.ofNat 0, Int.ofNat 0, (lit []), ()) ++ List.drop (0 + Int.toNat r.1 + (0 + Int.toNat (Int.ofNat (List.length r.2.1)) - (0 + Int.toNat r.1))) r.2.1)) ≤ Int.ofNat (List.length (List.take (0 + Int.toNat r.1) r.2.1 ++
 List.replicate (0 + Int.toNat (Int.ofNat (List.length r.2.1)) - (0 + Int.toNat r.1)) (Int.ofNat 0, Int.ofNat 0, Int.ofNat 0, (lit []), ()) ++ List.drop (0 + Int.toNat r.1 + (0 + Int.toNat (Int.ofNat (List.length r.2.1)) - (0 + Int.toNat r.1))) r.2.1)))) then some (List.drop 0 (List.take (0 + Int.toNat r.1) (List.take (0 + Int.toNat r.1) r.2.1 ++
 List.replicate (0 + Int.toNat (Int.ofNat (List.length r.2.1)) - (0 + Int.toNat r.1)) (Int.ofNat 0, Int.ofNat 0, Int.ofNat 0, (lit []), ()) ++ List.drop (0 + Int.toNat r.1 + (0 + Int.toNat (Int.ofNat (List.length r.2.1)) - (0 + Int.toNat r.1))) r.2.1)), List.take (0 + Int.toNat r.1) r.2.1 ++ List.replicate (0 + Int.toNat (Int.ofNat (List.length r.2.1)) - (0 + Int.toNat r.1))
 (Int.ofNat 0, Int.ofNat 0, Int.ofNat 0, (lit []), ()) ++ List.drop (0 + Int.toNat r.1 + (0 + Int.toNat (Int.ofNat (List.length r.2.1)) - (0 + Int.toNat r.1))) r.2.1, r.2.2.1, r.2.2.2.1, r.2.2.2.2.1, r.2.2.2.2.2.1, r.2.2.2.2.2.2.1, r.2.2.2.2.2.2.2.1, r.2.2.2.2.2.2.2.2.1, r.2.2.2.2.2.2.2.2.2.1, r.2.2.2.2.2.2.2.2.2.2.1, r.2.2.2.2.2.2.2.2.2.2.2.1, r.2.2.2.2.2.2.2.2.2.2.2.2.1, ()) else none
 else none := by kernel_rfl
theorem B47_0_eq (x0 : List (Ty.D r1)) (x1 x2 : Int) (x3 : List (Ty.D r5)) : B47_0 (x0, x1, x2, x3, ()) = bif decide (x2 < x1) then bif decide (Int.ofNat 0 ≤ x2) then Option.bind x0[Int.toNat x2]? fun (y : Int × Int × Int × ByteArray × List (ByteArray × Int × Int × Int × ByteArray × Unit) × ByteArray × ByteArray × Unit) =>
 bif decide (List.length x3 + List.length [(y.1, y.2.1, y.2.2.1, y.2.2.2.1, ())] ≤ 3518437208883) then some (Sum.inl (x0, x1, IntKind.wrap IntKind.i64 (x2 + Int.ofNat 1), x3 ++ [(y.1, y.2.1, y.2.2.1, y.2.2.2.1, ())], ())) else none else none else some (Sum.inr (x3, ())) := by kernel_rfl
theorem F47_eq (x0 : List (Ty.D r2)) (x1 : List (Ty.D r3)) (x2 : ByteArray) : F47 (x0, x1, x2, ()) = Option.bind (F67 (x0, x1, x2, ())) fun (r : ByteArray × List (Int × Int × Int × ByteArray × List (ByteArray × Int × Int × Int × ByteArray × Unit) × ByteArray × ByteArray × Unit) × Bool × Unit) => bif decide (Int.ofNat 0 ≤ Int.ofNat (List.length r.2.1)) &&
 decide (Int.ofNat 40 * Int.ofNat (List.length r.2.1) ≤ Int.ofNat 281474976710656) && decide (Int.ofNat (List.length r.2.1) ≤ Int.ofNat 9223372036854775807) then Option.bind (loop B47_0 (r.2.1, Int.ofNat (List.length r.2.1), Int.ofNat 0, [], ())) fun (r : List (Int × Int × Int × ByteArray × Unit) × Unit) => some (r.1, ()) else none := by kernel_rfl
theorem B71_0_eq (x0 : List (Ty.D r5)) (x1 x2 x3 x4 : Int) (x5 : ByteArray) (x6 x7 x8 : Int) (x9 : ByteArray) : B71_0 (x0, x1, x2, x3, x4, x5, x6, x7, x8, x9, ()) = bif decide (x1 < Int.ofNat (List.length x0)) then bif decide (Int.ofNat 0 ≤ x1) then Option.bind x0[Int.toNat x1]? fun (y : Int × Int × Int × ByteArray × Unit) =>
 Option.bind (F39 (y.1, y.2.1, y.2.2.1, y.2.2.2.1, x6, x7, x8, x9, ())) fun (r : Int × Unit) => bif decide (r.1 > Int.ofNat 0) then bif decide (Int.ofNat 0 ≤ x1) then Option.bind x0[Int.toNat x1]? fun (y : Int × Int × Int × ByteArray × Unit) => some (Sum.inl (x0, IntKind.wrap IntKind.i64 (x1 + Int.ofNat 1), x2, x3, x4, x5, y.1, y.2.1, y.2.2.1, y.2.2.2.1, ())) else none else
 some (Sum.inl (x0, IntKind.wrap IntKind.i64 (x1 + Int.ofNat 1), x2, x3, x4, x5, x6, x7, x8, x9, ())) else none else some (Sum.inr (x2, x3, x4, x5, x6, x7, x8, x9, ())) := by kernel_rfl
theorem F71_eq (x0 : List (Ty.D r5)) : F71 (x0, ()) = bif decide (Int.ofNat (List.length x0) < Int.ofNat 1) then none else Option.bind x0[0]? fun (y : Int × Int × Int × ByteArray × Unit) => Option.bind (loop B71_0 (x0, Int.ofNat 1, Int.ofNat 0, Int.ofNat 0, Int.ofNat 0, (lit []), y.1, y.2.1, y.2.2.1, y.2.2.2.1, ())) fun (r : Int × Int × Int × ByteArray × Int × Int × Int × ByteArray × Unit) =>
 some (r.2.2.2.2.1, r.2.2.2.2.2.1, r.2.2.2.2.2.2.1, r.2.2.2.2.2.2.2.1, ()) := by kernel_rfl
theorem F49_eq (x0 : List (Ty.D r5)) : F49 (x0, ()) = bif Int.ofNat (List.length x0) == Int.ofNat 0 then some (Int.ofNat 0, Int.ofNat 0, Int.ofNat 0, (lit []), ()) else Option.bind (F71 (x0, ())) fun (r : Int × Int × Int × ByteArray × Unit) => some (r.1, r.2.1, r.2.2.1, r.2.2.2.1, ()) := by kernel_rfl
theorem F35_eq (x0 : ByteArray) (x1 x2 : List (Ty.D r0)) (x3 : List (Ty.D r4)) (x4 : List (Ty.D r2)) (x5 : List (Ty.D r3)) (x6 : ByteArray) (x7 x8 x9 : Int) (x10 : ByteArray) : F35 (x0, x1, x2, x3, x4, x5, x6, x7, x8, x9, x10, ()) = Option.bind (F28 (x0, x1, x2, x3, x4, x5, x6, ())) fun (r : ByteArray × ByteArray × Int × Int × Int × ByteArray × Bool × Unit) =>
 bif r.2.2.2.2.2.2.1 then some (x6, x7, x8, x9, x10, true, Int.ofNat 0, ()) else bif ByteArray.toList x6 == ByteArray.toList x0 then some ((lit []), Int.ofNat 0, Int.ofNat 0, Int.ofNat 0, (lit []), false, Int.ofNat 0, ()) else Option.bind (F45 (x0, x1, x2, x3, x4, x5, x6, x7, x8, x9, x10, ())) fun (r : Bool × Unit) => bif !r.1 then Option.bind (F29 (x4, x5, x6, x7, x8, x9, x10, ())) fun (r :
 Int × Int × Int × ByteArray × List (ByteArray × Int × Int × Int × ByteArray × Unit) × ByteArray × ByteArray × Bool × Unit) => bif !r.2.2.2.2.2.2.2.1 then some ((lit []), Int.ofNat 0, Int.ofNat 0, Int.ofNat 0, (lit []), false, Int.ofNat 9, ()) else some (x6, x7, x8, x9, x10, true, Int.ofNat 0, ()) else
 Option.bind (F47 (x4, x5, x6, ())) fun (r : List (Int × Int × Int × ByteArray × Unit) × Unit) => Option.bind (F46 (r.1, x6, x7, x8, x9, x10, x0, x1, x2, x3, x4, x5, ())) fun (r : List (Int × Int × Int × ByteArray × Unit) × List (Int × Int × Int × ByteArray × Unit) × ByteArray × Int × Int × Int × ByteArray × ByteArray × List (ByteArray × Int × Int × Int × ByteArray × Unit) ×
 List (ByteArray × Int × Int × Int × ByteArray × Unit) × List (ByteArray × ByteArray × Int × Int × Int × ByteArray × Unit) × List (ByteArray × List (Int × Int × Int × ByteArray × List (ByteArray × Int × Int × Int × ByteArray × Unit) × ByteArray × ByteArray × Unit) × Unit) × List (ByteArray × ByteArray × Bool × Bool × Int × Int × Int × ByteArray × Int × Unit) × Unit) =>
 bif Int.ofNat (List.length r.1) == Int.ofNat 0 then some ((lit []), Int.ofNat 0, Int.ofNat 0, Int.ofNat 0, (lit []), false, Int.ofNat 13, ()) else Option.bind (F49 (r.1, ())) fun (r_1 : Int × Int × Int × ByteArray × Unit) => some (r.2.2.1, r_1.1, r_1.2.1, r_1.2.2.1, r_1.2.2.2.1, true, Int.ofNat 0, ()) := by kernel_rfl
theorem B23_0_eq (x0 : List (Ty.D r0)) (x1 x2 : Int) (x3 : ByteArray) (x4 x5 : List (Ty.D r0)) (x6 : List (Ty.D r4)) (x7 : List (Ty.D r2)) (x8 : List (Ty.D r3)) (x9 : List (Ty.D r0)) : B23_0 (x0, x1, x2, x3, x4, x5, x6, x7, x8, x9, ()) = bif decide (x2 < x1) then bif decide (Int.ofNat 0 ≤ x2) then Option.bind x0[Int.toNat x2]? fun (y : ByteArray × Int × Int × Int × ByteArray × Unit) =>
 Option.bind (F35 (x3, x4, x5, x6, x7, x8, y.1, y.2.1, y.2.2.1, y.2.2.2.1, y.2.2.2.2.1, ())) fun (r : ByteArray × Int × Int × Int × ByteArray × Bool × Int × Unit) => bif !r.2.2.2.2.2.2.1 == Int.ofNat 0 then some (Sum.inr (Sum.inl (r.2.2.2.2.2.2.1, ()))) else bif r.2.2.2.2.2.1 then bif decide (List.length x9 + List.length [(r.1, r.2.1, r.2.2.1, r.2.2.2.1, r.2.2.2.2.1, ())] ≤ 2513169434916) then
 some (Sum.inl (x0, x1, IntKind.wrap IntKind.i64 (x2 + Int.ofNat 1), x3, x4, x5, x6, x7, x8, x9 ++ [(r.1, r.2.1, r.2.2.1, r.2.2.2.1, r.2.2.2.2.1, ())], ())) else none else some (Sum.inl (x0, x1, IntKind.wrap IntKind.i64 (x2 + Int.ofNat 1), x3, x4, x5, x6, x7, x8, x9, ())) else none else some (Sum.inr (Sum.inr (x9, ()))) := by kernel_rfl
theorem F23_eq (x0 : ByteArray) (x1 x2 : List (Ty.D r0)) (x3 : List (Ty.D r4)) (x4 : List (Ty.D r2)) (x5 : List (Ty.D r3)) (x6 : List (Ty.D r0)) : F23 (x0, x1, x2, x3, x4, x5, x6, ()) = Option.bind (loop B23_0 (x6, Int.ofNat (List.length x6), Int.ofNat 0, x0, x1, x2, x3, x4, x5, [], ())) fun (r : Int × Unit ⊕ List (ByteArray × Int × Int × Int × ByteArray × Unit) × Unit) =>
 Sum.elim (fun (p : Int × Unit) => some (p.1, [], ())) (fun (p : List (ByteArray × Int × Int × Int × ByteArray × Unit) × Unit) => some (Int.ofNat 0, p.1, ())) r := by kernel_rfl
theorem F60_eq (x0 x1 : ByteArray) : F60 (x0, x1, ()) = some (xCompare x0 x1, ()) := by kernel_rfl
theorem F38_eq (x0 x1 : ByteArray) : F38 (x0, x1, ()) = Option.bind (F60 (x0, x1, ())) fun (r : Int × Unit) => some (r.1, ()) := by kernel_rfl
theorem F25_eq (x0 : ByteArray) (x1 x2 x3 : Int) (x4 x5 : ByteArray) (x6 x7 x8 : Int) (x9 : ByteArray) : F25 (x0, x1, x2, x3, x4, x5, x6, x7, x8, x9, ()) = Option.bind (F38 (x0, x5, ())) fun (r : Int × Unit) => bif !r.1 == Int.ofNat 0 then some (r.1, ()) else Option.bind (F39 (x1, x2, x3, x4, x6, x7, x8, x9, ())) fun (r : Int × Unit) => some (r.1, ()) := by kernel_rfl
theorem F30_eq (x0 : List (Ty.D r0)) : F30 (x0, ()) = bif decide (Int.ofNat 0 ≤ Int.ofNat (List.length x0)) && (decide (Int.ofNat (List.length x0) ≤ Int.ofNat (List.length x0)) && decide (Int.ofNat (List.length x0) ≤ Int.ofNat (List.length x0))) then some (List.drop 0 (List.take (Int.toNat (Int.ofNat (List.length x0))) x0), ()) else none := by kernel_rfl
theorem B31_0_eq (x0 : Int) (x1 x2 : Nat) (x3 : Int) (x4 : List (Ty.D r0)) : B31_0 (x0, x1, x2, x3, x4, ()) = bif decide (x3 < Int.ofNat (x2 - x1)) then bif decide (Int.ofNat 0 ≤ x3) && decide (x3 < Int.ofNat (x2 - x1)) then Option.bind x4[x1 + Int.toNat x3]? fun (y : ByteArray × Int × Int × Int × ByteArray × Unit) => bif decide (Int.ofNat 0 ≤ IntKind.wrap IntKind.i64 (x3 - Int.ofNat 1)) &&
 decide (IntKind.wrap IntKind.i64 (x3 - Int.ofNat 1) < Int.ofNat (x2 - x1)) then Option.bind x4[x1 + Int.toNat (IntKind.wrap IntKind.i64 (x3 - Int.ofNat 1))]? fun (y_1 : ByteArray × Int × Int × Int × ByteArray × Unit) => bif !(ByteArray.toList y.1 == ByteArray.toList y_1.1 && (y.2.1 == y_1.2.1 && (y.2.2.1 == y_1.2.2.1 && (y.2.2.2.1 == y_1.2.2.2.1 &&
 ByteArray.toList y.2.2.2.2.1 == ByteArray.toList y_1.2.2.2.2.1)))) then bif decide (Int.ofNat 0 ≤ x3) && decide (x3 < Int.ofNat (x2 - x1)) then Option.bind x4[x1 + Int.toNat x3]? fun (y : ByteArray × Int × Int × Int × ByteArray × Unit) => bif decide (Int.ofNat 0 ≤ x0) && decide (x0 < Int.ofNat (List.length x4)) then
 Option.bind x4[Int.toNat x0]? fun (y_2 : ByteArray × Int × Int × Int × ByteArray × Unit) => some (Sum.inl (IntKind.wrap IntKind.i64 (x0 + Int.ofNat 1), x1, x2, IntKind.wrap IntKind.i64 (x3 + Int.ofNat 1), List.set x4 (Int.toNat x0) (y.1, y.2.1, y.2.2.1, y.2.2.2.1, y.2.2.2.2.1, ()), ())) else none else none else some (Sum.inl (x0, x1, x2, IntKind.wrap IntKind.i64 (x3 + Int.ofNat 1), x4, ()))
 else none else none else some (Sum.inr (x0, x4, ())) := by kernel_rfl
theorem B31_1_eq (x0 : Int) (x1 : List (Ty.D r0)) : B31_1 (x0, x1, ()) = bif decide (x0 < Int.ofNat (List.length x1)) then bif decide (Int.ofNat 0 ≤ x0) && decide (x0 < Int.ofNat (List.length x1)) then Option.bind x1[Int.toNat x0]? fun (y : ByteArray × Int × Int × Int × ByteArray × Unit) => bif decide (Int.ofNat 0 ≤ IntKind.wrap IntKind.i64 (x0 - Int.ofNat 1)) &&
 decide (IntKind.wrap IntKind.i64 (x0 - Int.ofNat 1) < Int.ofNat (List.length x1)) then Option.bind x1[Int.toNat (IntKind.wrap IntKind.i64 (x0 - Int.ofNat 1))]? fun (y_1 : ByteArray × Int × Int × Int × ByteArray × Unit) => bif ByteArray.toList y.1 == ByteArray.toList y_1.1 && (y.2.1 == y_1.2.1 && (y.2.2.1 == y_1.2.2.1 && (y.2.2.2.1 == y_1.2.2.2.1 &&
 ByteArray.toList y.2.2.2.2.1 == ByteArray.toList y_1.2.2.2.2.1))) then bif decide (Int.ofNat 0 ≤ x0) && (decide (x0 ≤ Int.ofNat (List.length x1)) && (decide (Int.ofNat (List.length x1) ≤ Int.ofNat (List.length x1)) && decide (Int.ofNat (List.length x1) ≤ Int.ofNat (List.length x1)))) then Option.bind (loop B31_0
 (x0, 0 + Int.toNat x0, 0 + Int.toNat (Int.ofNat (List.length x1)), Int.ofNat 1, x1, ())) fun (r : Int × List (ByteArray × Int × Int × Int × ByteArray × Unit) × Unit) => bif decide (Int.ofNat 0 ≤ r.1) && (decide (r.1 ≤ Int.ofNat (List.length r.2.1)) && (decide (Int.ofNat (List.length r.2.1) ≤ Int.ofNat (List.length r.2.1)) &&
 decide (Int.ofNat (List.length r.2.1) ≤ Int.ofNat (List.length r.2.1)))) then bif decide (Int.ofNat 0 ≤ r.1) && (decide (r.1 ≤ Int.ofNat (List.length (List.take (0 + Int.toNat r.1) r.2.1 ++ List.replicate (0 + Int.toNat (Int.ofNat (List.length r.2.1)) - (0 + Int.toNat r.1)) ((lit []), Int.ofNat 0, Int.ofNat 0, Int.ofNat 0, (lit []), ()) ++ List.drop (0 + Int.toNat r.1 +
 (0 + Int.toNat (Int.ofNat (List.length r.2.1)) - (0 + Int.toNat r.1))) r.2.1))) && decide (Int.ofNat (List.length (List.take (0 + Int.toNat r.1) r.2.1 ++ List.replicate (0 + Int.toNat (Int.ofNat (List.length r.2.1)) - (0 + Int.toNat r.1)) ((lit []), Int.ofNat 0, Int.ofNat 0, Int.ofNat 0, (lit []), ()) ++ List.drop (0 + Int.toNat r.1 +
 (0 + Int.toNat (Int.ofNat (List.length r.2.1)) - (0 + Int.toNat r.1))) r.2.1)) ≤ Int.ofNat (List.length (List.take (0 + Int.toNat r.1) r.2.1 ++ List.replicate (0 + Int.toNat (Int.ofNat (List.length r.2.1)) - (0 + Int.toNat r.1)) ((lit []), Int.ofNat 0, Int.ofNat 0, Int.ofNat 0, (lit []), ()) ++ List.drop (0 + Int.toNat r.1 + (0 + Int.toNat (Int.ofNat (List.length r.2.1)) - (0 + Int.toNat r.1)))
 r.2.1)))) then some (Sum.inr (Sum.inl (0, 0 + Int.toNat r.1, List.take (0 + Int.toNat r.1) r.2.1 ++ List.replicate (0 + Int.toNat (Int.ofNat (List.length r.2.1)) - (0 + Int.toNat r.1)) ((lit []), Int.ofNat 0, Int.ofNat 0, Int.ofNat 0, (lit []), ()) ++ List.drop (0 + Int.toNat r.1 + (0 + Int.toNat (Int.ofNat (List.length r.2.1)) - (0 + Int.toNat r.1))) r.2.1, ()))) else none else none else none
 else some (Sum.inl (IntKind.wrap IntKind.i64 (x0 + Int.ofNat 1), x1, ())) else none else none else some (Sum.inr (Sum.inr (x1, ()))) := by kernel_rfl
theorem F31_eq (x0 : List (Ty.D r0)) : F31 (x0, ()) = bif decide (Int.ofNat (List.length x0) < Int.ofNat 2) then some (x0, x0, ()) else Option.bind (loop B31_1 (Int.ofNat 1, x0, ())) fun (r : Nat × Nat × List (ByteArray × Int × Int × Int × ByteArray × Unit) × Unit ⊕ List (ByteArray × Int × Int × Int × ByteArray × Unit) × Unit) => Sum.elim
 (fun (p : Nat × Nat × List (ByteArray × Int × Int × Int × ByteArray × Unit) × Unit) => some (List.drop p.1 (List.take p.2.1 p.2.2.1), p.2.2.1, ())) (fun (p : List (ByteArray × Int × Int × Int × ByteArray × Unit) × Unit) => some (p.1, p.1, ())) r := by kernel_rfl
theorem F33_eq (x0 : List (Ty.D r0)) : F33 (x0, ()) = some (x0, ()) := by kernel_rfl
theorem F34_eq (x0 : List (Ty.D r6)) : F34 (x0, ()) = bif match x0 with | [] => true | head :: tail => false then both (some ([], ())) (bif decide (0 + List.length x0 ≤ 1256584717458) then some ([] ++ x0, ()) else none) else bif decide (0 + List.length x0 ≤ 1256584717458) then some ([] ++ x0, ()) else none := by kernel_rfl
theorem B10_0_eq (x0 : ByteArray) (x1 : List (Ty.D r6)) (x2 x3 : Int) (x4 : ByteArray) (x5 x6 x7 : Int) (x8 x9 : ByteArray) (x10 x11 x12 : Int) (x13 : ByteArray) : B10_0 (x0, x1, x2, x3, x4, x5, x6, x7, x8, x9, x10, x11, x12, x13, ()) = bif decide (x3 < x2) then bif decide (Int.ofNat 0 ≤ x3) then Option.bind x1[Int.toNat x3]?
 fun (y : ByteArray × Int × Int × Int × ByteArray × ByteArray × Int × Int × Int × ByteArray × Unit) => bif ByteArray.toList y.1 == ByteArray.toList x0 then some (Sum.inr (Sum.inl (true, y.1, y.2.1, y.2.2.1, y.2.2.2.1, y.2.2.2.2.1, y.2.2.2.2.2.1, y.2.2.2.2.2.2.1, y.2.2.2.2.2.2.2.1, y.2.2.2.2.2.2.2.2.1, y.2.2.2.2.2.2.2.2.2.1, ()))) else some (Sum.inl
 (x0, x1, x2, IntKind.wrap IntKind.i64 (x3 + Int.ofNat 1), x4, x5, x6, x7, x8, x9, x10, x11, x12, x13, ())) else none else some (Sum.inr (Sum.inr (x4, x5, x6, x7, x8, x9, x10, x11, x12, x13, ()))) := by kernel_rfl
theorem F10_eq (x0 : List (Ty.D r6)) (x1 : ByteArray) : F10 (x0, x1, ()) = Option.bind (loop B10_0 (x1, x0, Int.ofNat (List.length x0), Int.ofNat 0, (lit []), Int.ofNat 0, Int.ofNat 0, Int.ofNat 0, (lit []), (lit []), Int.ofNat 0, Int.ofNat 0, Int.ofNat 0, (lit []), ())) fun (r : Bool × ByteArray × Int × Int × Int × ByteArray × ByteArray × Int × Int × Int × ByteArray × Unit ⊕
 ByteArray × Int × Int × Int × ByteArray × ByteArray × Int × Int × Int × ByteArray × Unit) => Sum.elim (fun (p : Bool × ByteArray × Int × Int × Int × ByteArray × ByteArray × Int × Int × Int × ByteArray × Unit) => some (p.2.1, p.2.2.1, p.2.2.2.1, p.2.2.2.2.1, p.2.2.2.2.2.1, p.2.2.2.2.2.2.1, p.2.2.2.2.2.2.2.1, p.2.2.2.2.2.2.2.2.1, p.2.2.2.2.2.2.2.2.2.1, p.2.2.2.2.2.2.2.2.2.2.1, p.1, ()))
 (fun (p : ByteArray × Int × Int × Int × ByteArray × ByteArray × Int × Int × Int × ByteArray × Unit) => some ((lit []), Int.ofNat 0, Int.ofNat 0, Int.ofNat 0, (lit []), (lit []), Int.ofNat 0, Int.ofNat 0, Int.ofNat 0, (lit []), false, ())) r := by kernel_rfl
theorem F13_eq (x0 x1 : Int) : F13 (x0, x1, ()) = bif !decide (x1 = Int.ofNat 0) then bif decide (Int.tmod x0 x1 < Int.ofNat 0) then some (IntKind.wrap IntKind.i64 (Int.tmod x0 x1 + x1), ()) else some (Int.tmod x0 x1, ()) else none := by kernel_rfl
theorem F14_eq  : F14 (()) = some ([(lit [97]), (lit [97, 47, 115, 117, 98]), (lit [98, 47, 99]), (lit [98, 47, 99, 47, 118, 50]), (lit [100]), (lit [101, 47, 118, 51]), (lit [101, 47, 118, 52])], ()) := by kernel_rfl
theorem F15_eq (x0 : Int) : F15 (x0, ()) = bif decide (Int.ofNat 0 ≤ x0) then Option.bind [Int.ofNat 1, Int.ofNat 1, Int.ofNat 1, Int.ofNat 2, Int.ofNat 1, Int.ofNat 3, Int.ofNat 4][Int.toNat x0]? fun (y : Int) => some (y, ()) else none := by kernel_rfl
theorem F18_eq (x0 x1 : Int) : F18 (x0, x1, ()) = bif decide (Int.ofNat 0 ≤ x0) && (decide (x0 ≤ IntKind.wrap IntKind.i64 (x0 + Int.ofNat 1)) && decide (IntKind.wrap IntKind.i64 (x0 + Int.ofNat 1) ≤ Int.ofNat 16)) then bif decide (Int.ofNat 0 ≤ x1) && (decide (x1 ≤ IntKind.wrap IntKind.i64 (x1 + Int.ofNat 1)) && decide (IntKind.wrap IntKind.i64 (x1 + Int.ofNat 1) ≤ Int.ofNat 16)) then bif fitsS
 (ByteArray.extract (lit [48, 49, 50, 51, 52, 53, 54, 55, 56, 57, 97, 98, 99, 100, 101, 102]) (Int.toNat x0) (Int.toNat (IntKind.wrap IntKind.i64 (x0 + Int.ofNat 1)))) (ByteArray.extract (lit [48, 49, 50, 51, 52, 53, 54, 55, 56, 57, 97, 98, 99, 100, 101, 102]) (Int.toNat x1) (Int.toNat (IntKind.wrap IntKind.i64 (x1 + Int.ofNat 1)))) then bif decide (Int.ofNat 0 ≤ IntKind.wrap IntKind.i64
 (Int.ofNat 10 + Int.tmod (IntKind.wrap IntKind.i64 (x0 + x1)) (Int.ofNat 9))) && decide (IntKind.wrap IntKind.i64 (Int.ofNat 10 + Int.tmod (IntKind.wrap IntKind.i64 (x0 + x1)) (Int.ofNat 9)) ≤ Int.ofNat 20) then bif fitsS (ByteArray.extract (lit [48, 49, 50, 51, 52, 53, 54, 55, 56, 57, 97, 98, 99, 100, 101, 102]) (Int.toNat x0) (Int.toNat (IntKind.wrap IntKind.i64 (x0 + Int.ofNat 1))) ++
 ByteArray.extract (lit [48, 49, 50, 51, 52, 53, 54, 55, 56, 57, 97, 98, 99, 100, 101, 102]) (Int.toNat x1) (Int.toNat (IntKind.wrap IntKind.i64 (x1 + Int.ofNat 1)))) (ByteArray.extract (lit [48, 48, 49, 49, 50, 50, 51, 51, 52, 52, 53, 53, 54, 54, 55, 55, 56, 56, 57, 57]) 0 (Int.toNat (IntKind.wrap IntKind.i64 (Int.ofNat 10 + Int.tmod (IntKind.wrap IntKind.i64 (x0 + x1)) (Int.ofNat 9))))) then
 some (ByteArray.extract (lit [48, 49, 50, 51, 52, 53, 54, 55, 56, 57, 97, 98, 99, 100, 101, 102]) (Int.toNat x0) (Int.toNat (IntKind.wrap IntKind.i64 (x0 + Int.ofNat 1))) ++ ByteArray.extract (lit [48, 49, 50, 51, 52, 53, 54, 55, 56, 57, 97, 98, 99, 100, 101, 102]) (Int.toNat x1) (Int.toNat (IntKind.wrap IntKind.i64 (x1 + Int.ofNat 1))) ++ ByteArray.extract
 (lit [48, 48, 49, 49, 50, 50, 51, 51, 52, 52, 53, 53, 54, 54, 55, 55, 56, 56, 57, 57]) 0 (Int.toNat (IntKind.wrap IntKind.i64 (Int.ofNat 10 + Int.tmod (IntKind.wrap IntKind.i64 (x0 + x1)) (Int.ofNat 9)))), ()) else none else none else none else none else none := by kernel_rfl
theorem F64_eq (x0 : Int) : F64 (x0, ()) = bif decide (x0 ≥ Int.ofNat 48) then some (decide (x0 ≤ Int.ofNat 57), ()) else some (false, ()) := by kernel_rfl
theorem B40_0_eq (x0 : ByteArray) (x1 : Int) : B40_0 (x0, x1, ()) = bif decide (x1 < Int.ofNat (ByteArray.size x0)) then bif decide (Int.ofNat 0 ≤ x1) && decide (x1 < Int.ofNat (ByteArray.size x0)) then Option.bind (F64 (bt x0 x1, ())) fun (r : Bool × Unit) => bif !r.1 then bif decide (Int.ofNat 0 ≤ x1) && decide (x1 < Int.ofNat (ByteArray.size x0)) then
 bif decide (bt x0 x1 < Int.ofNat 97) then some (Sum.inr (Sum.inl (false, ()))) else bif decide (Int.ofNat 0 ≤ x1) && decide (x1 < Int.ofNat (ByteArray.size x0)) then bif decide (bt x0 x1 > Int.ofNat 102) then some (Sum.inr (Sum.inl (false, ()))) else some (Sum.inl (x0, IntKind.wrap IntKind.i64 (x1 + Int.ofNat 1), ())) else none else none
 else some (Sum.inl (x0, IntKind.wrap IntKind.i64 (x1 + Int.ofNat 1), ())) else none else some (Sum.inr (Sum.inr (x0, ()))) := by kernel_rfl
theorem F40_eq (x0 : ByteArray) : F40 (x0, ()) = Option.bind (loop B40_0 (x0, Int.ofNat 0, ())) fun (r : Bool × Unit ⊕ ByteArray × Unit) => Sum.elim (fun (p : Bool × Unit) => some (p.1, ())) (fun (p : ByteArray × Unit) => bif decide (Int.ofNat (ByteArray.size p.1) ≥ Int.ofNat 12) then some (decide (Int.ofNat (ByteArray.size p.1) ≤ Int.ofNat 40), ()) else some (false, ())) r := by kernel_rfl
theorem F83_eq (x0 : Int) : F83 (x0, ()) = bif decide (x0 ≥ Int.ofNat 97) then bif decide (x0 ≤ Int.ofNat 122) then some (true, ()) else bif decide (x0 ≥ Int.ofNat 65) then bif decide (x0 ≤ Int.ofNat 90) then some (true, ()) else some (x0 == Int.ofNat 45, ()) else some (x0 == Int.ofNat 45, ()) else bif decide (x0 ≥ Int.ofNat 65) then
 bif decide (x0 ≤ Int.ofNat 90) then some (true, ()) else some (x0 == Int.ofNat 45, ()) else some (x0 == Int.ofNat 45, ()) := by kernel_rfl
theorem B82_0_eq (x0 : ByteArray) (x1 : Int) : B82_0 (x0, x1, ()) = bif decide (x1 < Int.ofNat (ByteArray.size x0)) then bif decide (Int.ofNat 0 ≤ x1) && decide (x1 < Int.ofNat (ByteArray.size x0)) then Option.bind (F64 (bt x0 x1, ())) fun (r : Bool × Unit) => bif !r.1 then some (Sum.inr (Sum.inl (false, ()))) else some (Sum.inl (x0, IntKind.wrap IntKind.i64 (x1 + Int.ofNat 1), ())) else none
 else some (Sum.inr (Sum.inr (x0, ()))) := by kernel_rfl
theorem F82_eq (x0 : ByteArray) : F82 (x0, ()) = Option.bind (loop B82_0 (x0, Int.ofNat 0, ())) fun (r : Bool × Unit ⊕ ByteArray × Unit) => Sum.elim (fun (p : Bool × Unit) => some (p.1, ())) (fun (p : ByteArray × Unit) => some (!ByteArray.toList p.1 == [], ())) r := by kernel_rfl
theorem B66_0_eq (x0 : ByteArray) (x1 : Int) : B66_0 (x0, x1, ()) = bif decide (x1 < Int.ofNat (ByteArray.size x0)) then bif decide (Int.ofNat 0 ≤ x1) && decide (x1 < Int.ofNat (ByteArray.size x0)) then Option.bind (F64 (bt x0 x1, ())) fun (r : Bool × Unit) => bif !r.1 then bif decide (Int.ofNat 0 ≤ x1) && decide (x1 < Int.ofNat (ByteArray.size x0)) then
 Option.bind (F83 (bt x0 x1, ())) fun (r : Bool × Unit) => bif !r.1 then some (Sum.inr (Sum.inl (false, ()))) else some (Sum.inl (x0, IntKind.wrap IntKind.i64 (x1 + Int.ofNat 1), ())) else none else some (Sum.inl (x0, IntKind.wrap IntKind.i64 (x1 + Int.ofNat 1), ())) else none else some (Sum.inr (Sum.inr ())) := by kernel_rfl
theorem F66_eq (x0 : ByteArray) : F66 (x0, ()) = bif ByteArray.toList x0 == [] then some (false, ()) else Option.bind (F82 (x0, ())) fun (r : Bool × Unit) => bif r.1 then bif decide (Int.ofNat (ByteArray.size x0) > Int.ofNat 1) then bif decide (Int.ofNat 0 < Int.ofNat (ByteArray.size x0)) then bif bt x0 (Int.ofNat 0) == Int.ofNat 48 then some (false, ()) else
 Option.bind (loop B66_0 (x0, Int.ofNat 0, ())) fun (r : Bool × Unit ⊕ Unit) => Sum.elim (fun (p : Bool × Unit) => some (p.1, ())) (fun (p : Unit) => some (true, ())) r else none else Option.bind (loop B66_0 (x0, Int.ofNat 0, ())) fun (r : Bool × Unit ⊕ Unit) => Sum.elim (fun (p : Bool × Unit) => some (p.1, ())) (fun (p : Unit) => some (true, ())) r else
 Option.bind (loop B66_0 (x0, Int.ofNat 0, ())) fun (r : Bool × Unit ⊕ Unit) => Sum.elim (fun (p : Bool × Unit) => some (p.1, ())) (fun (p : Unit) => some (true, ())) r := by kernel_rfl
theorem B65_0_eq (x0 : ByteArray) (x1 x2 : Int) (x3 : List ByteArray) : B65_0 (x0, x1, x2, x3, ()) = bif decide (x2 ≤ Int.ofNat (ByteArray.size x0)) then bif x2 == Int.ofNat (ByteArray.size x0) then bif decide (Int.ofNat 0 ≤ x1) && (decide (x1 ≤ x2) && decide (x2 ≤ Int.ofNat (ByteArray.size x0))) then bif decide
 (List.length x3 + List.length [ByteArray.extract x0 (Int.toNat x1) (Int.toNat x2)] ≤ 8796093022208) then some (Sum.inl (x0, IntKind.wrap IntKind.i64 (x2 + Int.ofNat 1), IntKind.wrap IntKind.i64 (x2 + Int.ofNat 1), x3 ++ [ByteArray.extract x0 (Int.toNat x1) (Int.toNat x2)], ())) else none else none else bif decide (Int.ofNat 0 ≤ x2) && decide (x2 < Int.ofNat (ByteArray.size x0)) then
 bif bt x0 x2 == Int.ofNat 46 then bif decide (Int.ofNat 0 ≤ x1) && (decide (x1 ≤ x2) && decide (x2 ≤ Int.ofNat (ByteArray.size x0))) then bif decide (List.length x3 + List.length [ByteArray.extract x0 (Int.toNat x1) (Int.toNat x2)] ≤ 8796093022208) then some (Sum.inl (x0, IntKind.wrap IntKind.i64 (x2 + Int.ofNat 1), IntKind.wrap IntKind.i64 (x2 + Int.ofNat 1),
 x3 ++ [ByteArray.extract x0 (Int.toNat x1) (Int.toNat x2)], ())) else none else none else some (Sum.inl (x0, x1, IntKind.wrap IntKind.i64 (x2 + Int.ofNat 1), x3, ())) else none else some (Sum.inr (x3, ())) := by kernel_rfl
theorem F65_eq (x0 : ByteArray) : F65 (x0, ()) = Option.bind (loop B65_0 (x0, Int.ofNat 0, Int.ofNat 0, [], ())) fun (r : List ByteArray × Unit) => some (r.1, ()) := by kernel_rfl
theorem B41_0_eq (x0 : List ByteArray) (x1 : Int) : B41_0 (x0, x1, ()) = bif decide (x1 < Int.ofNat (List.length x0)) then bif decide (Int.ofNat 0 ≤ x1) then Option.bind x0[Int.toNat x1]? fun (y : ByteArray) => Option.bind (F66 (y, ())) fun (r : Bool × Unit) => bif !r.1 then some (Sum.inr (Sum.inl (false, ()))) else some (Sum.inl (x0, IntKind.wrap IntKind.i64 (x1 + Int.ofNat 1), ())) else none
 else some (Sum.inr (Sum.inr ())) := by kernel_rfl
theorem F41_eq (x0 x1 x2 : Int) (x3 : ByteArray) : F41 (x0, x1, x2, x3, ()) = bif decide (x0 < Int.ofNat 0) then some (false, ()) else bif decide (x1 < Int.ofNat 0) then some (false, ()) else bif decide (x2 < Int.ofNat 0) then some (false, ()) else bif decide ((bif decide (x2 > bif decide (x1 > x0) then x1 else x0) then x2 else bif decide (x1 > x0) then x1 else x0) > Int.ofNat 999999) then
 some (false, ()) else bif decide (Int.ofNat (ByteArray.size x3) > Int.ofNat 40) then some (false, ()) else bif ByteArray.toList x3 == [] then some (true, ()) else Option.bind (F65 (x3, ())) fun (r : List ByteArray × Unit) => Option.bind (loop B41_0 (r.1, Int.ofNat 0, ())) fun (r : Bool × Unit ⊕ Unit) => Sum.elim (fun (p : Bool × Unit) => some (p.1, ()))
 (fun (p : Unit) => some (true, ())) r := by kernel_rfl
theorem B27_0_eq (x0 : Bool) (x1 x2 : ByteArray) (x3 x4 x5 : Int) (x6 : ByteArray) (x7 x8 x9 : Int) (x10 : ByteArray) : B27_0 (x0, x1, x2, x3, x4, x5, x6, x7, x8, x9, x10, ()) = bif decide (Int.ofNat (ByteArray.size x2) < Int.ofNat 14) then bif fitsS (lit [48]) x2 then some (Sum.inl (x0, x1, (lit [48]) ++ x2, x3, x4, x5, x6, x7, x8, x9, x10, ())) else none
 else some (Sum.inr (x0, x1, x2, x3, x4, x5, x6, x7, x8, x9, x10, ())) := by kernel_rfl
theorem F27_eq (x0 : Bool) (x1 x2 x3 : Int) (x4 : ByteArray) (x5 : Int) (x6 : ByteArray) : F27 (x0, x1, x2, x3, x4, x5, x6, ()) = bif decide (x5 < Int.ofNat 0) then some (Int.ofNat 0, Int.ofNat 0, Int.ofNat 0, (lit []), false, ()) else bif decide (x5 > Int.ofNat 99999999999999) then some (Int.ofNat 0, Int.ofNat 0, Int.ofNat 0, (lit []), false, ()) else
 Option.bind (F40 (x6, ())) fun (r : Bool × Unit) => bif !r.1 then some (Int.ofNat 0, Int.ofNat 0, Int.ofNat 0, (lit []), false, ()) else Option.bind (F17 (x5, ())) fun (r : ByteArray × Unit) => Option.bind (loop B27_0 (x0, x6, r.1, x1, x2, x3, x4, Int.ofNat 0, Int.ofNat 0, Int.ofNat 0, (lit []), ())) fun (r :
 Bool × ByteArray × ByteArray × Int × Int × Int × ByteArray × Int × Int × Int × ByteArray × Unit) => bif fitsS r.2.2.1 (lit [45]) then bif decide (Int.ofNat 12 ≤ Int.ofNat (ByteArray.size r.2.1)) then bif fitsS (r.2.2.1 ++ (lit [45])) (ByteArray.extract r.2.1 0 12) then bif !r.1 then Option.bind (F41 (Int.ofNat 0, Int.ofNat 0, Int.ofNat 0, r.2.2.1 ++ (lit [45]) ++ ByteArray.extract r.2.1 0 12,
 ())) fun (r_1 : Bool × Unit) => bif !r_1.1 then some (Int.ofNat 0, Int.ofNat 0, Int.ofNat 0, (lit []), false, ()) else some (Int.ofNat 0, Int.ofNat 0, Int.ofNat 0, r.2.2.1 ++ (lit [45]) ++ ByteArray.extract r.2.1 0 12, true, ()) else bif ByteArray.toList r.2.2.2.2.2.2.1 == [] then bif fitsS (lit [48, 46]) (r.2.2.1 ++ (lit [45]) ++ ByteArray.extract r.2.1 0 12) then Option.bind (F41
 (r.2.2.2.1, r.2.2.2.2.1, IntKind.wrap IntKind.i64 (r.2.2.2.2.2.1 + Int.ofNat 1), (lit [48, 46]) ++ (r.2.2.1 ++ (lit [45]) ++ ByteArray.extract r.2.1 0 12), ())) fun (r_1 : Bool × Unit) => bif !r_1.1 then some (Int.ofNat 0, Int.ofNat 0, Int.ofNat 0, (lit []), false, ()) else some (r.2.2.2.1, r.2.2.2.2.1, IntKind.wrap IntKind.i64 (r.2.2.2.2.2.1 + Int.ofNat 1), (lit [48, 46]) ++ (r.2.2.1 ++
 (lit [45]) ++ ByteArray.extract r.2.1 0 12), true, ()) else none else bif fitsS r.2.2.2.2.2.2.1 (lit [46, 48, 46]) then bif fitsS (r.2.2.2.2.2.2.1 ++ (lit [46, 48, 46])) (r.2.2.1 ++ (lit [45]) ++ ByteArray.extract r.2.1 0 12) then Option.bind (F41 (r.2.2.2.1, r.2.2.2.2.1, r.2.2.2.2.2.1, r.2.2.2.2.2.2.1 ++ (lit [46, 48, 46]) ++ (r.2.2.1 ++ (lit [45]) ++ ByteArray.extract r.2.1 0 12), ()))
 fun (r_1 : Bool × Unit) => bif !r_1.1 then some (Int.ofNat 0, Int.ofNat 0, Int.ofNat 0, (lit []), false, ()) else some (r.2.2.2.1, r.2.2.2.2.1, r.2.2.2.2.2.1, r.2.2.2.2.2.2.1 ++ (lit [46, 48, 46]) ++ (r.2.2.1 ++ (lit [45]) ++ ByteArray.extract r.2.1 0 12), true, ()) else none else none else none else none else none := by kernel_rfl
theorem F16_eq (x0 : Int) : F16 (x0, ()) = Option.bind (F15 (x0, ())) fun (r : Int × Unit) => Option.bind (F18 (x0, Int.ofNat 9, ())) fun (r_1 : ByteArray × Unit) => Option.bind (F27 (true, r.1, Int.ofNat 1, Int.ofNat 0, (lit []), IntKind.wrap IntKind.i64 (Int.ofNat 20200101000000 + x0), r_1.1, ()))
 fun (r : Int × Int × Int × ByteArray × Bool × Unit) => some (r.1, r.2.1, r.2.2.1, r.2.2.2.1, ()) := by kernel_rfl
theorem B6_0_eq (x0 : List Int) (x1 : Bool) (x2 x3 x4 : Int) (x5 : ByteArray) (x6 x7 x8 : Int) (x9 : List (Ty.D r5)) (x10 : ByteArray) (x11 x12 x13 : Int) (x14 x15 x16 : ByteArray) (x17 : List (Ty.D r2)) (x18 : List (Ty.D r3)) (x19 : List (Ty.D r1)) (x20 : List (Ty.D r0)) : B6_0 (x0, x1, x2, x3, x4, x5, x6, x7, x8, x9, x10, x11, x12, x13, x14, x15, x16, x17, x18, x19, x20, ()) =
 bif decide (x8 < x2) then bif decide (Int.ofNat (List.length x0) > Int.ofNat 0) then bif !decide (Int.ofNat (List.length x0) = Int.ofNat 0) then bif decide (Int.ofNat 0 ≤ Int.tmod x3 (Int.ofNat (List.length x0))) then Option.bind x0[Int.toNat (Int.tmod x3 (Int.ofNat (List.length x0)))]? fun (y : Int) => Option.bind (F13 (IntKind.wrap IntKind.i64 (y + x3), Int.ofNat 1073741824, ()))
 fun (r : Int × Unit) => bif x8 == x4 then some (Sum.inl (x0, x1, x2, IntKind.wrap IntKind.i64 (x3 + Int.ofNat 1), x4, x5, x6, x7, IntKind.wrap IntKind.i64 (x8 + Int.ofNat 1), x9, x10, x11, x12, x13, x14, x15, x16, x17, x18, x19, x20, ())) else bif decide (Int.tmod r.1 (Int.ofNat 5) > Int.ofNat 1) then some (Sum.inl (x0, x1, x2, IntKind.wrap IntKind.i64 (x3 + Int.ofNat 1), x4, x5, x6, x7,
 IntKind.wrap IntKind.i64 (x8 + Int.ofNat 1), x9, x10, x11, x12, x13, x14, x15, x16, x17, x18, x19, x20, ())) else Option.bind (F15 (x8, ())) fun (r_1 : Int × Unit) => Option.bind (F16 (x8, ())) fun (r_2 : Int × Int × Int × ByteArray × Unit) => bif decide (Int.ofNat 0 ≤ Int.tmod (IntKind.wrap IntKind.i64 (Int.tdiv r.1 (Int.ofNat 5))) (Int.ofNat 5)) then Option.bind
 [(r_1.1, Int.ofNat 0, Int.ofNat 0, (lit []), ()), (r_1.1, Int.ofNat 1, Int.ofNat 0, (lit []), ()), (r_2.1, r_2.2.1, r_2.2.2.1, r_2.2.2.2.1, ()), (r_1.1, Int.ofNat 2, Int.ofNat 0, (lit [114, 99, 46, 49]), ()), (r_1.1, Int.ofNat 2, Int.ofNat 0, (lit []), ())][Int.toNat (Int.tmod (IntKind.wrap IntKind.i64 (Int.tdiv r.1 (Int.ofNat 5))) (Int.ofNat 5))]? fun (y : Int × Int × Int × ByteArray × Unit) =>
 Option.bind (F14 ()) fun (r : List ByteArray × Unit) => bif decide (Int.ofNat 0 ≤ x8) then Option.bind r.1[Int.toNat x8]? fun (y_1 : ByteArray) => bif decide (List.length x20 + List.length [(y_1, y.1, y.2.1, y.2.2.1, y.2.2.2.1, ())] ≤ 2513169434916) then some (Sum.inl (x0, x1, x2, IntKind.wrap IntKind.i64 (x3 + Int.ofNat 1), x4, x5, x6, x7,
 IntKind.wrap IntKind.i64 (x8 + Int.ofNat 1), x9, x10, x11, x12, x13, x14, x15, x16, x17, x18, x19, x20 ++ [(y_1, y.1, y.2.1, y.2.2.1, y.2.2.2.1, ())], ())) else none else none else none else none else none else some (Sum.inr (x0, x1, x2, x3, x4, x5, x6, x7, x9, x10, x11, x12, x13, x14, x15, x16, x17, x18, x19, x20, ())) else some
 (Sum.inr (x0, x1, x2, x3, x4, x5, x6, x7, x9, x10, x11, x12, x13, x14, x15, x16, x17, x18, x19, x20, ())) := by kernel_rfl
theorem B6_1_eq (x0 : List Int) (x1 : Bool) (x2 x3 x4 : Int) (x5 : ByteArray) (x6 x7 : Int) (x8 : List (Ty.D r5)) (x9 : ByteArray) (x10 : List (Ty.D r2)) (x11 : List (Ty.D r3)) (x12 : List (Ty.D r1)) : B6_1 (x0, x1, x2, x3, x4, x5, x6, x7, x8, x9, x10, x11, x12, ()) = bif decide (x7 < Int.ofNat (List.length x8)) then bif decide (Int.ofNat 0 ≤ x7) then
 Option.bind x8[Int.toNat x7]? fun (y : Int × Int × Int × ByteArray × Unit) => Option.bind (F17 (IntKind.wrap IntKind.i64 (IntKind.wrap IntKind.i64 (Int.ofNat 10 * x4) + x7), ())) fun (r : ByteArray × Unit) => bif fitsS (lit [104]) r.1 then bif fitsS ((lit [104]) ++ r.1) (lit [61]) then Option.bind (F17 (IntKind.wrap IntKind.i64 (IntKind.wrap IntKind.i64 (Int.ofNat 10 * x4) + x7), ()))
 fun (r_1 : ByteArray × Unit) => bif fitsS (lit [109]) r_1.1 then Option.bind (loop B6_0 (x0, x1, x2, x3, x4, x5, x6, x7, Int.ofNat 0, x8, x9, y.1, y.2.1, y.2.2.1, y.2.2.2.1, (lit [104]) ++ r.1 ++ (lit [61]), (lit [109]) ++ r_1.1, x10, x11, x12, [], ())) fun (r : List Int × Bool × Int × Int × Int × ByteArray × Int × Int × List (Int × Int × Int × ByteArray × Unit) × ByteArray × Int × Int × Int ×
 ByteArray × ByteArray × ByteArray × List (ByteArray × List (Int × Int × Int × ByteArray × List (ByteArray × Int × Int × Int × ByteArray × Unit) × ByteArray × ByteArray × Unit) × Unit) × List (ByteArray × ByteArray × Bool × Bool × Int × Int × Int × ByteArray × Int × Unit) × List (Int × Int × Int × ByteArray × List (ByteArray × Int × Int × Int × ByteArray × Unit) × ByteArray × ByteArray × Unit) ×
 List (ByteArray × Int × Int × Int × ByteArray × Unit) × Unit) => bif !r.2.1 then bif decide (Int.ofNat (List.length r.1) > Int.ofNat 0) then bif !decide (Int.ofNat (List.length r.1) = Int.ofNat 0) then bif decide (Int.ofNat 0 ≤ Int.tmod (IntKind.wrap IntKind.i64 (r.2.2.2.1 + r.2.2.2.2.2.2.2.1)) (Int.ofNat (List.length r.1))) then Option.bind r.1[Int.toNat
 (Int.tmod (IntKind.wrap IntKind.i64 (r.2.2.2.1 + r.2.2.2.2.2.2.2.1)) (Int.ofNat (List.length r.1)))]? fun (y : Int) => Option.bind (F13 (y, Int.ofNat 23, ())) fun (r_2 : Int × Unit) => bif r_2.1 == Int.ofNat 0 then bif decide (List.length r.2.2.2.2.2.2.2.2.2.2.2.2.2.2.2.2.2.2.1 + List.length [(r.2.2.2.2.2.2.2.2.2.2.1, r.2.2.2.2.2.2.2.2.2.2.2.1,
 r.2.2.2.2.2.2.2.2.2.2.2.2.1, r.2.2.2.2.2.2.2.2.2.2.2.2.2.1, r.2.2.2.2.2.2.2.2.2.2.2.2.2.2.2.2.2.2.2.1, (lit []), r.2.2.2.2.2.2.2.2.2.2.2.2.2.2.2.1, ())] ≤ 1466015503701) then some (Sum.inl (r.1, r.2.1, r.2.2.1, r.2.2.2.1, r.2.2.2.2.1, r.2.2.2.2.2.1, r.2.2.2.2.2.2.1, IntKind.wrap IntKind.i64 (r.2.2.2.2.2.2.2.1 + Int.ofNat 1), r.2.2.2.2.2.2.2.2.1, r.2.2.2.2.2.2.2.2.2.1,
 r.2.2.2.2.2.2.2.2.2.2.2.2.2.2.2.2.1, r.2.2.2.2.2.2.2.2.2.2.2.2.2.2.2.2.2.1, r.2.2.2.2.2.2.2.2.2.2.2.2.2.2.2.2.2.2.1 ++ [(r.2.2.2.2.2.2.2.2.2.2.1, r.2.2.2.2.2.2.2.2.2.2.2.1, r.2.2.2.2.2.2.2.2.2.2.2.2.1, r.2.2.2.2.2.2.2.2.2.2.2.2.2.1, r.2.2.2.2.2.2.2.2.2.2.2.2.2.2.2.2.2.2.2.1, (lit []), r.2.2.2.2.2.2.2.2.2.2.2.2.2.2.2.1, ())], ())) else none else bif decide
 (List.length r.2.2.2.2.2.2.2.2.2.2.2.2.2.2.2.2.2.2.1 + List.length [(r.2.2.2.2.2.2.2.2.2.2.1, r.2.2.2.2.2.2.2.2.2.2.2.1, r.2.2.2.2.2.2.2.2.2.2.2.2.1, r.2.2.2.2.2.2.2.2.2.2.2.2.2.1, r.2.2.2.2.2.2.2.2.2.2.2.2.2.2.2.2.2.2.2.1, r.2.2.2.2.2.2.2.2.2.2.2.2.2.2.1, r.2.2.2.2.2.2.2.2.2.2.2.2.2.2.2.1, ())] ≤ 1466015503701) then some (Sum.inl
 (r.1, r.2.1, r.2.2.1, r.2.2.2.1, r.2.2.2.2.1, r.2.2.2.2.2.1, r.2.2.2.2.2.2.1, IntKind.wrap IntKind.i64 (r.2.2.2.2.2.2.2.1 + Int.ofNat 1), r.2.2.2.2.2.2.2.2.1, r.2.2.2.2.2.2.2.2.2.1, r.2.2.2.2.2.2.2.2.2.2.2.2.2.2.2.2.1, r.2.2.2.2.2.2.2.2.2.2.2.2.2.2.2.2.2.1, r.2.2.2.2.2.2.2.2.2.2.2.2.2.2.2.2.2.2.1 ++ [(r.2.2.2.2.2.2.2.2.2.2.1, r.2.2.2.2.2.2.2.2.2.2.2.1,
 r.2.2.2.2.2.2.2.2.2.2.2.2.1, r.2.2.2.2.2.2.2.2.2.2.2.2.2.1, r.2.2.2.2.2.2.2.2.2.2.2.2.2.2.2.2.2.2.2.1, r.2.2.2.2.2.2.2.2.2.2.2.2.2.2.1, r.2.2.2.2.2.2.2.2.2.2.2.2.2.2.2.1, ())], ())) else none else none else none else bif decide (List.length r.2.2.2.2.2.2.2.2.2.2.2.2.2.2.2.2.2.2.1 + List.length [(r.2.2.2.2.2.2.2.2.2.2.1, r.2.2.2.2.2.2.2.2.2.2.2.1, r.2.2.2.2.2.2.2.2.2.2.2.2.1,
 r.2.2.2.2.2.2.2.2.2.2.2.2.2.1, r.2.2.2.2.2.2.2.2.2.2.2.2.2.2.2.2.2.2.2.1, r.2.2.2.2.2.2.2.2.2.2.2.2.2.2.1, r.2.2.2.2.2.2.2.2.2.2.2.2.2.2.2.1, ())] ≤ 1466015503701) then some (Sum.inl (r.1, r.2.1, r.2.2.1, r.2.2.2.1, r.2.2.2.2.1, r.2.2.2.2.2.1, r.2.2.2.2.2.2.1, IntKind.wrap IntKind.i64 (r.2.2.2.2.2.2.2.1 + Int.ofNat 1), r.2.2.2.2.2.2.2.2.1,
 r.2.2.2.2.2.2.2.2.2.1, r.2.2.2.2.2.2.2.2.2.2.2.2.2.2.2.2.1, r.2.2.2.2.2.2.2.2.2.2.2.2.2.2.2.2.2.1, r.2.2.2.2.2.2.2.2.2.2.2.2.2.2.2.2.2.2.1 ++ [(r.2.2.2.2.2.2.2.2.2.2.1, r.2.2.2.2.2.2.2.2.2.2.2.1, r.2.2.2.2.2.2.2.2.2.2.2.2.1, r.2.2.2.2.2.2.2.2.2.2.2.2.2.1, r.2.2.2.2.2.2.2.2.2.2.2.2.2.2.2.2.2.2.2.1, r.2.2.2.2.2.2.2.2.2.2.2.2.2.2.1, r.2.2.2.2.2.2.2.2.2.2.2.2.2.2.2.1, ())], ())) else none else bif
 decide (List.length r.2.2.2.2.2.2.2.2.2.2.2.2.2.2.2.2.2.2.1 + List.length [(r.2.2.2.2.2.2.2.2.2.2.1, r.2.2.2.2.2.2.2.2.2.2.2.1, r.2.2.2.2.2.2.2.2.2.2.2.2.1, r.2.2.2.2.2.2.2.2.2.2.2.2.2.1, r.2.2.2.2.2.2.2.2.2.2.2.2.2.2.2.2.2.2.2.1, r.2.2.2.2.2.2.2.2.2.2.2.2.2.2.1, r.2.2.2.2.2.2.2.2.2.2.2.2.2.2.2.1, ())] ≤ 1466015503701) then some (Sum.inl
 (r.1, r.2.1, r.2.2.1, r.2.2.2.1, r.2.2.2.2.1, r.2.2.2.2.2.1, r.2.2.2.2.2.2.1, IntKind.wrap IntKind.i64 (r.2.2.2.2.2.2.2.1 + Int.ofNat 1), r.2.2.2.2.2.2.2.2.1, r.2.2.2.2.2.2.2.2.2.1, r.2.2.2.2.2.2.2.2.2.2.2.2.2.2.2.2.1, r.2.2.2.2.2.2.2.2.2.2.2.2.2.2.2.2.2.1, r.2.2.2.2.2.2.2.2.2.2.2.2.2.2.2.2.2.2.1 ++ [(r.2.2.2.2.2.2.2.2.2.2.1, r.2.2.2.2.2.2.2.2.2.2.2.1, r.2.2.2.2.2.2.2.2.2.2.2.2.1,
 r.2.2.2.2.2.2.2.2.2.2.2.2.2.1, r.2.2.2.2.2.2.2.2.2.2.2.2.2.2.2.2.2.2.2.1, r.2.2.2.2.2.2.2.2.2.2.2.2.2.2.1, r.2.2.2.2.2.2.2.2.2.2.2.2.2.2.2.1, ())], ())) else none else none else none else none else none else some (Sum.inr (x0, x1, x2, x3, x4, x5, x6, x9, x10, x11, x12, ())) := by kernel_rfl
theorem B6_2_eq (x0 : List Int) (x1 : Bool) (x2 x3 x4 : Int) (x5 : List (Ty.D r2)) (x6 : List (Ty.D r3)) : B6_2 (x0, x1, x2, x3, x4, x5, x6, ()) = bif decide (x4 < x2) then Option.bind (F14 ()) fun (r : List ByteArray × Unit) => bif decide (Int.ofNat 0 ≤ x4) then Option.bind r.1[Int.toNat x4]? fun (y : ByteArray) => Option.bind (F15 (x4, ())) fun (r : Int × Unit) =>
 Option.bind (F16 (x4, ())) fun (r_1 : Int × Int × Int × ByteArray × Unit) => bif r.1 == Int.ofNat 1 then bif decide (1 + List.length [(r.1, Int.ofNat 0, Int.ofNat 0, (lit []), ()), (r.1, Int.ofNat 1, Int.ofNat 0, (lit []), ()), (r_1.1, r_1.2.1, r_1.2.2.1, r_1.2.2.2.1, ()), (r.1, Int.ofNat 2, Int.ofNat 0, (lit [114, 99, 46, 49]), ()), (r.1, Int.ofNat 2, Int.ofNat 0, (lit []), ())] ≤
 3518437208883) then Option.bind (loop B6_1 (x0, x1, x2, x3, x4, y, r.1, Int.ofNat 0, [(Int.ofNat 0, Int.ofNat 5, Int.ofNat 0, (lit []), ())] ++ [(r.1, Int.ofNat 0, Int.ofNat 0, (lit []), ()), (r.1, Int.ofNat 1, Int.ofNat 0, (lit []), ()), (r_1.1, r_1.2.1, r_1.2.2.1, r_1.2.2.2.1, ()), (r.1, Int.ofNat 2, Int.ofNat 0, (lit [114, 99, 46, 49]), ()), (r.1, Int.ofNat 2, Int.ofNat 0, (lit []), ())],
 y, x5, x6, [], ())) fun (r : List Int × Bool × Int × Int × Int × ByteArray × Int × ByteArray × List (ByteArray × List (Int × Int × Int × ByteArray × List (ByteArray × Int × Int × Int × ByteArray × Unit) × ByteArray × ByteArray × Unit) × Unit) × List (ByteArray × ByteArray × Bool × Bool × Int × Int × Int × ByteArray × Int × Unit) × List (Int × Int × Int × ByteArray ×
 List (ByteArray × Int × Int × Int × ByteArray × Unit) × ByteArray × ByteArray × Unit) × Unit) => bif decide (List.length r.2.2.2.2.2.2.2.2.1 + List.length [(r.2.2.2.2.2.2.2.1, r.2.2.2.2.2.2.2.2.2.2.1, ())] ≤ 3518437208883) then Option.bind (F18 (r.2.2.2.2.1, Int.ofNat 1, ())) fun (r_2 : ByteArray × Unit) => Option.bind (F18 (r.2.2.2.2.1, Int.ofNat 2, ())) fun (r_3 : ByteArray × Unit) =>
 Option.bind (F18 (r.2.2.2.2.1, Int.ofNat 3, ())) fun (r_4 : ByteArray × Unit) => Option.bind (F18 (r.2.2.2.2.1, Int.ofNat 8, ())) fun (r_5 : ByteArray × Unit) => Option.bind (F18 (r.2.2.2.2.1, Int.ofNat 9, ())) fun (r_6 : ByteArray × Unit) => bif decide (List.length r.2.2.2.2.2.2.2.2.2.1 + List.length [(r.2.2.2.2.2.1, r_2.1, true, false, r.2.2.2.2.2.2.1, Int.ofNat 0,
 Int.ofNat 0, (lit []), Int.ofNat 0, ()), (r.2.2.2.2.2.1, r_3.1, true, false, r.2.2.2.2.2.2.1, Int.ofNat 1, Int.ofNat 0, (lit []), Int.ofNat 0, ()), (r.2.2.2.2.2.1, r_4.1, true, false, r.2.2.2.2.2.2.1, Int.ofNat 2, Int.ofNat 0, (lit []), Int.ofNat 0, ()), (r.2.2.2.2.2.1, r_5.1, false, false, Int.ofNat 0, Int.ofNat 0, Int.ofNat 0, (lit []),
 IntKind.wrap IntKind.i64 (Int.ofNat 20190101000000 + r.2.2.2.2.1), ()), (r.2.2.2.2.2.1, r_6.1, false, true, r.2.2.2.2.2.2.1, Int.ofNat 1, Int.ofNat 0, (lit []), IntKind.wrap IntKind.i64 (Int.ofNat 20200101000000 + r.2.2.2.2.1), ())] ≤ 1599289640401) then some (Sum.inl (r.1, r.2.1, r.2.2.1, r.2.2.2.1, IntKind.wrap IntKind.i64 (r.2.2.2.2.1 + Int.ofNat 1), r.2.2.2.2.2.2.2.2.1 ++
 [(r.2.2.2.2.2.2.2.1, r.2.2.2.2.2.2.2.2.2.2.1, ())], r.2.2.2.2.2.2.2.2.2.1 ++ [(r.2.2.2.2.2.1, r_2.1, true, false, r.2.2.2.2.2.2.1, Int.ofNat 0, Int.ofNat 0, (lit []), Int.ofNat 0, ()), (r.2.2.2.2.2.1, r_3.1, true, false, r.2.2.2.2.2.2.1, Int.ofNat 1, Int.ofNat 0, (lit []), Int.ofNat 0, ()), (r.2.2.2.2.2.1, r_4.1, true, false, r.2.2.2.2.2.2.1, Int.ofNat 2, Int.ofNat 0, (lit []), Int.ofNat 0, ()),
 (r.2.2.2.2.2.1, r_5.1, false, false, Int.ofNat 0, Int.ofNat 0, Int.ofNat 0, (lit []), IntKind.wrap IntKind.i64 (Int.ofNat 20190101000000 + r.2.2.2.2.1), ()), (r.2.2.2.2.2.1, r_6.1, false, true, r.2.2.2.2.2.2.1, Int.ofNat 1, Int.ofNat 0, (lit []), IntKind.wrap IntKind.i64 (Int.ofNat 20200101000000 + r.2.2.2.2.1), ())], ())) else none else none else none else Option.bind (loop B6_1
 (x0, x1, x2, x3, x4, y, r.1, Int.ofNat 0, [(r.1, Int.ofNat 0, Int.ofNat 0, (lit []), ()), (r.1, Int.ofNat 1, Int.ofNat 0, (lit []), ()), (r_1.1, r_1.2.1, r_1.2.2.1, r_1.2.2.2.1, ()), (r.1, Int.ofNat 2, Int.ofNat 0, (lit [114, 99, 46, 49]), ()), (r.1, Int.ofNat 2, Int.ofNat 0, (lit []), ())], y, x5, x6, [], ())) fun (r : List Int × Bool × Int × Int × Int × ByteArray × Int × ByteArray × List
 (ByteArray × List (Int × Int × Int × ByteArray × List (ByteArray × Int × Int × Int × ByteArray × Unit) × ByteArray × ByteArray × Unit) × Unit) × List (ByteArray × ByteArray × Bool × Bool × Int × Int × Int × ByteArray × Int × Unit) × List (Int × Int × Int × ByteArray × List (ByteArray × Int × Int × Int × ByteArray × Unit) × ByteArray × ByteArray × Unit) × Unit) => bif decide
 (List.length r.2.2.2.2.2.2.2.2.1 + List.length [(r.2.2.2.2.2.2.2.1, r.2.2.2.2.2.2.2.2.2.2.1, ())] ≤ 3518437208883) then Option.bind (F18 (r.2.2.2.2.1, Int.ofNat 1, ())) fun (r_2 : ByteArray × Unit) => Option.bind (F18 (r.2.2.2.2.1, Int.ofNat 2, ())) fun (r_3 : ByteArray × Unit) => Option.bind (F18 (r.2.2.2.2.1, Int.ofNat 3, ())) fun (r_4 : ByteArray × Unit) =>
 Option.bind (F18 (r.2.2.2.2.1, Int.ofNat 8, ())) fun (r_5 : ByteArray × Unit) => Option.bind (F18 (r.2.2.2.2.1, Int.ofNat 9, ())) fun (r_6 : ByteArray × Unit) => bif decide (List.length r.2.2.2.2.2.2.2.2.2.1 + List.length [(r.2.2.2.2.2.1, r_2.1, true, false, r.2.2.2.2.2.2.1, Int.ofNat 0, Int.ofNat 0, (lit []), Int.ofNat 0, ()), (r.2.2.2.2.2.1, r_3.1, true, false, r.2.2.2.2.2.2.1, Int.ofNat 1,
 Int.ofNat 0, (lit []), Int.ofNat 0, ()), (r.2.2.2.2.2.1, r_4.1, true, false, r.2.2.2.2.2.2.1, Int.ofNat 2, Int.ofNat 0, (lit []), Int.ofNat 0, ()), (r.2.2.2.2.2.1, r_5.1, false, false, Int.ofNat 0, Int.ofNat 0, Int.ofNat 0, (lit []), IntKind.wrap IntKind.i64 (Int.ofNat 20190101000000 + r.2.2.2.2.1), ()), (r.2.2.2.2.2.1, r_6.1, false, true, r.2.2.2.2.2.2.1, Int.ofNat 1, Int.ofNat 0, (lit []),
 IntKind.wrap IntKind.i64 (Int.ofNat 20200101000000 + r.2.2.2.2.1), ())] ≤ 1599289640401) then some (Sum.inl (r.1, r.2.1, r.2.2.1, r.2.2.2.1, IntKind.wrap IntKind.i64 (r.2.2.2.2.1 + Int.ofNat 1), r.2.2.2.2.2.2.2.2.1 ++ [(r.2.2.2.2.2.2.2.1, r.2.2.2.2.2.2.2.2.2.2.1, ())], r.2.2.2.2.2.2.2.2.2.1 ++ [(r.2.2.2.2.2.1, r_2.1, true, false, r.2.2.2.2.2.2.1, Int.ofNat 0, Int.ofNat 0,
 (lit []), Int.ofNat 0, ()), (r.2.2.2.2.2.1, r_3.1, true, false, r.2.2.2.2.2.2.1, Int.ofNat 1, Int.ofNat 0, (lit []), Int.ofNat 0, ()), (r.2.2.2.2.2.1, r_4.1, true, false, r.2.2.2.2.2.2.1, Int.ofNat 2, Int.ofNat 0, (lit []), Int.ofNat 0, ()), (r.2.2.2.2.2.1, r_5.1, false, false, Int.ofNat 0, Int.ofNat 0, Int.ofNat 0, (lit []), IntKind.wrap IntKind.i64 (Int.ofNat 20190101000000 + r.2.2.2.2.1),
 ()), (r.2.2.2.2.2.1, r_6.1, false, true, r.2.2.2.2.2.2.1, Int.ofNat 1, Int.ofNat 0, (lit []), IntKind.wrap IntKind.i64 (Int.ofNat 20200101000000 + r.2.2.2.2.1), ())], ())) else none else none else none else some (Sum.inr (x5, x6, ())) := by kernel_rfl
theorem F6_eq (x0 : Int) (x1 : List Int) (x2 : Bool) : F6 (x0, x1, x2, ()) = Option.bind (F13 (x0, Int.ofNat 7, ())) fun (r : Int × Unit) => Option.bind (loop B6_2 (x1, x2, IntKind.wrap IntKind.i64 (Int.ofNat 1 + r.1), Int.ofNat 0, Int.ofNat 0, [], [], ())) fun (r : List (ByteArray × List (Int × Int × Int × ByteArray ×
 List (ByteArray × Int × Int × Int × ByteArray × Unit) × ByteArray × ByteArray × Unit) × Unit) × List (ByteArray × ByteArray × Bool × Bool × Int × Int × Int × ByteArray × Int × Unit) × Unit) => some (r.1, r.2.1, ()) := by kernel_rfl
theorem F7_eq (x0 x1 : Int) : F7 (x0, x1, ()) = bif !decide (x1 = Int.ofNat 0) then bif decide (Int.tmod x0 x1 < Int.ofNat 0) then some (IntKind.wrap IntKind.i64 (Int.tmod x0 x1 + x1), ()) else some (Int.tmod x0 x1, ()) else none := by kernel_rfl
theorem B11_0_eq (x0 x1 : List (Ty.D r0)) (x2 : Int) : B11_0 (x0, x1, x2, ()) = bif decide (x2 < Int.ofNat (List.length x0)) then bif decide (Int.ofNat 0 ≤ x2) then Option.bind x0[Int.toNat x2]? fun (y : ByteArray × Int × Int × Int × ByteArray × Unit) => bif decide (Int.ofNat 0 ≤ x2) then Option.bind x1[Int.toNat x2]? fun (y_1 : ByteArray × Int × Int × Int × ByteArray × Unit) => bif
 !(ByteArray.toList y.1 == ByteArray.toList y_1.1 && (y.2.1 == y_1.2.1 && (y.2.2.1 == y_1.2.2.1 && (y.2.2.2.1 == y_1.2.2.2.1 && ByteArray.toList y.2.2.2.2.1 == ByteArray.toList y_1.2.2.2.2.1)))) then some (Sum.inr (Sum.inl (false, ()))) else some (Sum.inl (x0, x1, IntKind.wrap IntKind.i64 (x2 + Int.ofNat 1), ())) else none else none else some (Sum.inr (Sum.inr ())) := by kernel_rfl
theorem F11_eq (x0 x1 : List (Ty.D r0)) : F11 (x0, x1, ()) = bif !Int.ofNat (List.length x0) == Int.ofNat (List.length x1) then some (false, ()) else Option.bind (loop B11_0 (x0, x1, Int.ofNat 0, ())) fun (r : Bool × Unit ⊕ Unit) => Sum.elim (fun (p : Bool × Unit) => some (p.1, ())) (fun (p : Unit) => some (true, ())) r := by kernel_rfl
end Go.Vx.Z
/-! strings.Split at a dot; texts held against one another. -/
namespace Go.Vx
open Go
set_option linter.unusedVariables false
theorem xIndexByte_eq (s : ByteArray) (c : Int) : xIndexByte s c = Lib.indexByte (bs s) c.toNat.toUInt8 := Lib.firstIdx_eq s c.toNat.toUInt8
theorem xCount_eq (s : ByteArray) (c : Int) : xCount s c = (((bs s).count c.toNat.toUInt8 : Nat) : Int) := by
  unfold xCount
  rw [Lib.foldl_data, Lib.count_foldl]
  simp [Lib.countByte, bs]
def splitB (c : UInt8) : List UInt8 → List (List UInt8)
  | [] => [[]]
  | x :: l => if x == c then [] :: splitB c l else match splitB c l with
    | [] => [[x]]
    | w :: ws => (x :: w) :: ws
theorem splitB_ne (c : UInt8) : ∀ l, splitB c l ≠ []
  | [] => by simp [splitB]
  | x :: l => by
    unfold splitB
    split
    · simp
    · split <;> simp
theorem index_no {c : UInt8} : ∀ {l : List UInt8}, Lib.indexByte l c = -1 → splitB c l = [l] ∧ l.count c = 0
  | [], _ => ⟨rfl, rfl⟩
  | x :: l, h => by
    unfold Lib.indexByte at h
    split at h
    · cases h
    · rename_i hx
      split at h
      · rename_i hl
        obtain ⟨h1, h2⟩ := index_no (l := l) (by simpa using hl)
        unfold splitB
        rw [if_neg hx, h1]
        exact ⟨rfl, by rw [List.count_cons, h2]; simp [hx]⟩
      · have := Lib.indexByte_ge l c
        rename_i hl
        have hl' : Lib.indexByte l c ≠ -1 := by simpa using hl
        omega
theorem index_yes {c : UInt8} : ∀ {l : List UInt8}, Lib.indexByte l c ≠ -1 → ∃ k : Nat, Lib.indexByte l c = k ∧ k < l.length ∧ splitB c l = l.take k :: splitB c (l.drop (k + 1)) ∧ l.count c = (l.drop (k + 1)).count c + 1
  | [], h => absurd rfl h
  | x :: l, h => by
    unfold Lib.indexByte at h ⊢
    split
    · rename_i hx
      refine ⟨0, rfl, by simp, ?_, ?_⟩
      · conv => lhs; unfold splitB
        rw [if_pos hx]
        simp
      · rw [List.count_cons]; simp [hx]
    · rename_i hx
      rw [if_neg hx] at h
      split
      · rename_i hl; rw [if_pos hl] at h; exact absurd rfl h
      · rename_i hl
        obtain ⟨k, h1, h2, h3, h4⟩ := index_yes (l := l) (c := c) (by simpa using hl)
        refine ⟨k + 1, by rw [h1]; rfl, by simp; omega, ?_, ?_⟩
        · conv => lhs; unfold splitB
          rw [if_neg hx, h3]
          simp
        · rw [List.count_cons, h4]; simp [hx]
theorem splitB_length (c : UInt8) : ∀ l, (splitB c l).length = l.count c + 1
  | [] => rfl
  | x :: l => by
    have ih := splitB_length c l
    unfold splitB
    rw [List.count_cons]
    split
    · rename_i hx; simp [ih, hx]
    · rename_i hx
      have hne := splitB_ne c l
      cases hs : splitB c l with
      | nil => exact absurd hs hne
      | cons w ws => rw [hs] at ih; simp [hx] at ih ⊢; exact ih
namespace Z
def dot : ByteArray := lit [46]
/-- Split at dots. -/
def splitDot (s : ByteArray) : List ByteArray := (splitB 46 (bs s)).map lit
theorem lit_bs (s : ByteArray) : lit (bs s) = s := bs_inj rfl
theorem F91_dot (s : ByteArray) : F91 (s, dot, ()) = some (Lib.indexByte (bs s) 46, ()) := by
  rw [F91_eq, F96_eq]
  have h1 : (Int.ofNat (ByteArray.size dot) == Int.ofNat 0) = false := rfl
  have h2 : (Int.ofNat (ByteArray.size dot) == Int.ofNat 1) = true := rfl
  have h3 : decide (Int.ofNat 0 < Int.ofNat (ByteArray.size dot)) = true := rfl
  rw [h1, h2, h3, F98_eq, xIndexByte_eq]
  simp only [cond_false, cond_true, Option.bind_some]
  cases hd : (dot.toList == s.toList) with
  | false => rfl
  | true =>
    have : dot.toList = s.toList := by simpa using hd
    rw [bs_toList, bs_toList] at this
    rw [← this]
    rfl
theorem split_inv (s : ByteArray) (n : Nat) (hn : n ≤ 1099511627776) : ∀ (k : Nat) (r : ByteArray) (a : List ByteArray) (i : Nat), k = (bs r).count 46 → r.size ≤ 1099511627776 → i + k = n → a.length = n + 1 → (a.take i).map bs ++ splitB 46 (bs r) = splitB 46 (bs s) →
    ∃ r' a', loop B86_0 (r, dot, (0 : Int), (n : Int), (i : Int), a, ()) = some (r', (n : Int), a', ()) ∧ a'.length = n + 1 ∧ (a'.take n).map bs ++ [bs r'] = splitB 46 (bs s)
  | 0, r, a, i, hk, hr, hi, ha, hs => by
    obtain rfl : i = n := by omega
    have hno : Lib.indexByte (bs r) 46 = -1 := by
      by_cases h : Lib.indexByte (bs r) 46 = -1
      · exact h
      · obtain ⟨_, _, _, _, h4⟩ := index_yes h
        omega
    refine ⟨r, a, loop_end ?_, ha, by rw [← hs, (index_no hno).1]⟩
    rw [B86_0_eq]
    have : decide ((i : Int) < (i : Int)) = false := by simp
    rw [this]
    rfl
  | k + 1, r, a, i, hk, hr, hi, ha, hs => by
    have hyes : Lib.indexByte (bs r) 46 ≠ -1 := fun h => by
      have := (index_no h).2
      omega
    obtain ⟨m, h1, h2, h3, h4⟩ := index_yes hyes
    have hsz : r.size = (bs r).length := bs_size r
    have hrest : bs (r.extract (m + 1) r.size) = (bs r).drop (m + 1) := by
      rw [bs_extract, hsz, List.take_length]
    obtain ⟨r', a', h5, h6, h7⟩ := split_inv s n hn k (r.extract (m + 1) r.size) (a.set i (r.extract 0 m)) (i + 1) (by rw [hrest]; omega) (by rw [bs_size, hrest, List.length_drop]; omega) (by omega) (by rw [List.length_set]; exact ha) (by
      rw [hrest, ← hs, h3, List.take_set, List.take_succ_eq_append_getElem (by omega), List.set_append]
      have hl : (a.take i).length = i := by rw [List.length_take]; omega
      rw [hl, if_neg (by omega), Nat.sub_self, List.set_cons_zero, List.map_append, List.append_assoc]
      simp [bs_extract])
    refine ⟨r', a', loop_step ?_ h5, h6, h7⟩
    rw [B86_0_eq, F91_dot, h1]
    have e1 : decide ((i : Int) < (n : Int)) = true := by simp; omega
    have e2 : decide ((m : Int) < Int.ofNat 0) = false := by simp
    have e3 : IntKind.wrap IntKind.i64 ((m : Int) + 0) = (m : Int) := by rw [wrap64 (by omega) (by omega)]; omega
    have e4 : (decide (Int.ofNat 0 ≤ (m : Int)) && decide ((m : Int) ≤ Int.ofNat r.size)) = true := by simp; omega
    have e5 : (decide (Int.ofNat 0 ≤ (i : Int)) && decide ((i : Int) < Int.ofNat a.length)) = true := by simp; omega
    have e6 : IntKind.wrap IntKind.i64 ((m : Int) + Int.ofNat (ByteArray.size dot)) = ((m + 1 : Nat) : Int) := by
      have : Int.ofNat (ByteArray.size dot) = 1 := rfl
      rw [this]; exact wrap64s m (by omega)
    have e7 : (decide (Int.ofNat 0 ≤ ((m + 1 : Nat) : Int)) && (decide (((m + 1 : Nat) : Int) ≤ Int.ofNat r.size) && decide (Int.ofNat r.size ≤ Int.ofNat r.size))) = true := by simp; omega
    have e8 : IntKind.wrap IntKind.i64 ((i : Int) + Int.ofNat 1) = ((i + 1 : Nat) : Int) := wrap64s i (by omega)
    have e9 : a[i]? = some (a[i]'(by omega)) := List.getElem?_eq_getElem _
    simp only [e1, e2, e3, e4, e5, e6, e7, e8, cond_true, cond_false, Int.toNat_natCast, Option.bind_some]
    rw [e9]
    rfl
theorem F80_dot (s : ByteArray) (hs : s.size ≤ 1099511627776) : F80 (s, dot, ()) = some (splitDot s, ()) := by
  rw [F80_eq, F86_eq]
  have h1 : (Int.negSucc 0 == Int.ofNat 0) = false := rfl
  have h2 : (ByteArray.toList dot == []) = false := by rw [bs_toList]; rfl
  have h3 : decide (Int.negSucc 0 < Int.ofNat 0) = true := rfl
  have h4 : F90 (s, dot, ()) = some ((((bs s).count 46 : Nat) : Int), ()) := by
    rw [F90_eq]
    have g1 : (Int.ofNat (ByteArray.size dot) == Int.ofNat 0) = false := rfl
    have g2 : (Int.ofNat (ByteArray.size dot) == Int.ofNat 1) = true := rfl
    have g3 : decide (Int.ofNat 0 < Int.ofNat (ByteArray.size dot)) = true := rfl
    rw [g1, g2, g3]
    simp only [cond_false, cond_true]
    rw [xCount_eq]
    rfl
  have hc : (bs s).count 46 ≤ (bs s).length := List.count_le_length
  have hsz := bs_size s
  rw [h1, h2, h3, h4]
  simp only [cond_false, cond_true, Option.bind_some]
  generalize hn : (bs s).count 46 = n
  have e1 : IntKind.wrap IntKind.i64 (Int.ofNat s.size + Int.ofNat 1) = ((s.size + 1 : Nat) : Int) := wrap64s s.size (by omega)
  have e2 : IntKind.wrap IntKind.i64 ((n : Int) + Int.ofNat 1) = ((n + 1 : Nat) : Int) := wrap64s n (by omega)
  have e3 : decide (((s.size + 1 : Nat) : Int) < ((n + 1 : Nat) : Int)) = false := by simp; omega
  rw [e1, e2, e3]
  simp only [cond_false]
  have e4 : (decide (Int.ofNat 0 ≤ ((n + 1 : Nat) : Int)) && (decide (((n + 1 : Nat) : Int) ≤ ((n + 1 : Nat) : Int)) && decide ((Int.ofNat 16 * ((n + 1 : Nat) : Int)) ≤ Int.ofNat 281474976710656) && decide (((n + 1 : Nat) : Int) ≤ Int.ofNat 9223372036854775807))) = true := by
    simp; omega
  have e5 : IntKind.wrap IntKind.i64 (((n + 1 : Nat) : Int) - Int.ofNat 1) = (n : Int) := by rw [show ((n + 1 : Nat) : Int) - Int.ofNat 1 = (n : Int) by simp]; exact wrap64 (by omega) (by omega)
  rw [e4, e5]
  simp only [cond_true, Int.toNat_natCast]
  obtain ⟨r', a', h5, h6, h7⟩ := split_inv s n (by omega) n s (List.replicate (n + 1) (lit [])) 0 hn.symm hs (by omega) (by simp) (by simp)
  have h5' : loop B86_0 (s, dot, Int.ofNat 0, (n : Int), Int.ofNat 0, List.replicate (n + 1) (lit []), ()) = some (r', (n : Int), a', ()) := h5
  rw [h5']
  simp only [Option.bind_some]
  have e6 : (decide (Int.ofNat 0 ≤ (n : Int)) && decide ((n : Int) < Int.ofNat a'.length)) = true := by simp; omega
  have e7 : a'[n]? = some (a'[n]'(by omega)) := List.getElem?_eq_getElem _
  have e8 : (decide (Int.ofNat 0 ≤ ((n + 1 : Nat) : Int)) && (decide (((n + 1 : Nat) : Int) ≤ Int.ofNat (List.length (a'.set n r'))) && decide (Int.ofNat (List.length (a'.set n r')) ≤ Int.ofNat (List.length (a'.set n r'))))) = true := by simp; omega
  simp only [e6, e2, cond_true, Int.toNat_natCast, e8, Nat.zero_add, List.drop_zero]
  rw [e7]
  simp only [Option.bind_some]
  have hl : List.take (n + 1) (a'.set n r') = a'.take n ++ [r'] := by
    rw [List.take_set, List.take_of_length_le (by omega), List.set_eq_take_append_cons_drop, if_pos (by omega), List.drop_of_length_le (by omega)]
  have he : a'.take n ++ [r'] = splitDot s := by
    unfold splitDot
    rw [← h7, List.map_append, List.map_map]
    have : (lit ∘ bs) = id := by funext x; exact lit_bs x
    rw [this, List.map_id]
    simp [lit_bs]
  rw [hl, he]
end Z
end Go.Vx
/-! Orders: whole numbers, bytes, words, versions. -/
namespace Go.Vx
open Go
set_option linter.unusedVariables false
/-- An order by a sign. -/
structure Lin {α : Type} (c : α → α → Int) : Prop where
  rng : ∀ x y, c x y = -1 ∨ c x y = 0 ∨ c x y = 1
  eq0 : ∀ x y, c x y = 0 ↔ x = y
  anti : ∀ x y, c y x = - c x y
  trans : ∀ x y z, c x y = -1 → c y z = -1 → c x z = -1
theorem Lin.self {α : Type} {c : α → α → Int} (h : Lin c) (x : α) : c x x = 0 := (h.eq0 x x).2 rfl
theorem Lin.pull {α β : Type} {c : α → α → Int} (h : Lin c) (f : β → α) (hf : ∀ x y, f x = f y → x = y) : Lin fun x y => c (f x) (f y) :=
  ⟨fun x y => h.rng _ _, fun x y => ⟨fun e => hf _ _ ((h.eq0 _ _).1 e), fun e => by rw [e]; exact h.self _⟩, fun x y => h.anti _ _, fun x y z => h.trans _ _ _⟩
/-- First by one, then by the other. -/
def orC (a b : Int) : Int := if a = 0 then b else a
theorem Lin.prod {α β : Type} {c : α → α → Int} {d : β → β → Int} (h : Lin c) (k : Lin d) : Lin fun (x y : α × β) => orC (c x.1 y.1) (d x.2 y.2) := by
  refine ⟨fun x y => ?_, fun x y => ?_, fun x y => ?_, fun x y z => ?_⟩
  · unfold orC; split
    · exact k.rng _ _
    · exact h.rng _ _
  · unfold orC
    split
    · rename_i e
      rw [k.eq0]
      have := (h.eq0 _ _).1 e
      exact ⟨fun e2 => Prod.ext this e2, fun e2 => by rw [e2]⟩
    · rename_i e
      exact ⟨fun e2 => absurd e2 e, fun e2 => absurd ((h.eq0 x.1 y.1).2 (by rw [e2])) e⟩
  · unfold orC
    rw [h.anti x.1 y.1, k.anti x.2 y.2]
    split
    · rename_i e; rw [if_pos (by omega)]
    · rename_i e; rw [if_neg (by omega)]
  · unfold orC
    intro h1 h2
    by_cases e1 : c x.1 y.1 = 0
    · rw [if_pos e1] at h1
      have e1' := (h.eq0 _ _).1 e1
      rw [e1']
      by_cases e2 : c y.1 z.1 = 0
      · rw [if_pos e2] at h2 ⊢
        exact k.trans _ _ _ h1 h2
      · rw [if_neg e2] at h2 ⊢
        exact h2
    · rw [if_neg e1] at h1
      by_cases e2 : c y.1 z.1 = 0
      · have e2' := (h.eq0 _ _).1 e2
        rw [← e2', if_neg e1]
        exact h1
      · rw [if_neg e2] at h2
        have := h.trans _ _ _ h1 h2
        rw [if_neg (by omega)]
        exact this
def listC {α : Type} (c : α → α → Int) : List α → List α → Int
  | [], [] => 0
  | [], _ :: _ => -1
  | _ :: _, [] => 1
  | x :: xs, y :: ys => orC (c x y) (listC c xs ys)
theorem Lin.list {α : Type} {c : α → α → Int} (h : Lin c) : Lin (listC c) := by
  have rng : ∀ x y, listC c x y = -1 ∨ listC c x y = 0 ∨ listC c x y = 1 := by
    intro x
    induction x with
    | nil => intro y; cases y <;> simp [listC]
    | cons a x ih =>
      intro y
      cases y with
      | nil => simp [listC]
      | cons b y =>
        simp only [listC, orC]
        split
        · exact ih y
        · exact h.rng _ _
  have eq0 : ∀ x y, listC c x y = 0 ↔ x = y := by
    intro x
    induction x with
    | nil => intro y; cases y <;> simp [listC]
    | cons a x ih =>
      intro y
      cases y with
      | nil => simp [listC]
      | cons b y =>
        simp only [listC, orC]
        split
        · rename_i e
          rw [ih y, (h.eq0 _ _).1 e]
          simp
        · rename_i e
          refine ⟨fun e2 => absurd e2 e, fun e2 => ?_⟩
          injection e2 with e3 _
          exact absurd ((h.eq0 _ _).2 e3) e
  have anti : ∀ x y, listC c y x = - listC c x y := by
    intro x
    induction x with
    | nil => intro y; cases y <;> simp [listC]
    | cons a x ih =>
      intro y
      cases y with
      | nil => simp [listC]
      | cons b y =>
        simp only [listC, orC]
        rw [h.anti a b, ih y]
        split
        · rename_i e; rw [if_pos (by omega)]
        · rename_i e; rw [if_neg (by omega)]
  refine ⟨rng, eq0, anti, ?_⟩
  intro x
  induction x with
  | nil =>
    intro y z h1 h2
    cases y with
    | nil => simp [listC] at h1
    | cons b y =>
      cases z with
      | nil => simp [listC] at h2
      | cons d z => rfl
  | cons a x ih =>
    intro y z h1 h2
    cases y with
    | nil => simp [listC] at h1
    | cons b y =>
      cases z with
      | nil => simp [listC] at h2
      | cons d z =>
        simp only [listC, orC] at h1 h2 ⊢
        by_cases e1 : c a b = 0
        · rw [if_pos e1] at h1
          rw [(h.eq0 _ _).1 e1]
          by_cases e2 : c b d = 0
          · rw [if_pos e2] at h2 ⊢
            exact ih y z h1 h2
          · rw [if_neg e2] at h2 ⊢
            exact h2
        · rw [if_neg e1] at h1
          by_cases e2 : c b d = 0
          · rw [← (h.eq0 _ _).1 e2, if_neg e1]
            exact h1
          · rw [if_neg e2] at h2
            have := h.trans _ _ _ h1 h2
            rw [if_neg (by omega)]
            exact this
theorem Lin.swo {α : Type} {c : α → α → Int} (h : Lin c) : Sort.SWO fun x y => decide (c x y < 0) := by
  have lt : ∀ x y, c x y < 0 ↔ c x y = -1 := fun x y => by have := h.rng x y; omega
  have tr : ∀ x y z, c x y = 1 → c y z = 1 → c x z = 1 := fun x y z h1 h2 => by
    have := h.trans z y x (by rw [h.anti y z]; omega) (by rw [h.anti x y]; omega)
    rw [h.anti x z] at this; omega
  refine ⟨fun x => by simp [h.self], fun x y z h1 h2 => ?_, fun x y z h1 h2 => ?_⟩
  · simp only [decide_eq_true_eq, lt] at *
    exact h.trans _ _ _ h1 h2
  · simp only [decide_eq_false_iff_not, lt] at *
    intro h3
    have r1 := h.rng x y
    have r2 := h.rng y z
    by_cases e1 : c x y = 0
    · rw [(h.eq0 _ _).1 e1] at h3; exact h2 h3
    · by_cases e2 : c y z = 0
      · rw [← (h.eq0 _ _).1 e2] at h3; exact h1 h3
      · have := tr x y z (by omega) (by omega); omega
/-! ### The orders -/
def cmpI (a b : Int) : Int := if a < b then -1 else if b < a then 1 else 0
theorem lin_cmpI : Lin cmpI := by
  refine ⟨fun x y => ?_, fun x y => ?_, fun x y => ?_, fun x y z => ?_⟩ <;> unfold cmpI
  · split
    · simp
    · split <;> simp
  · split
    · constructor <;> intro h <;> omega
    · split <;> constructor <;> intro h <;> omega
  · split <;> split <;> first | omega | (split <;> omega) | rfl
  · intro h1 h2
    split at h1
    · split at h2
      · rw [if_pos (by omega)]
      · split at h2 <;> omega
    · split at h1 <;> omega
def cmpU (a b : UInt8) : Int := cmpI a.toNat b.toNat
theorem lin_cmpU : Lin cmpU := lin_cmpI.pull (fun a : UInt8 => (a.toNat : Int)) fun x y h => UInt8.toNat_inj.1 (by omega)
/-- Texts as bytes. -/
abbrev cmpT : List UInt8 → List UInt8 → Int := listC cmpU
theorem lin_cmpT : Lin cmpT := lin_cmpU.list
theorem compareBytes_eq : ∀ a b, Lib.compareBytes a b = cmpT a b
  | [], [] => rfl
  | [], _ :: _ => rfl
  | _ :: _, [] => rfl
  | x :: a, y :: b => by
    have ih := compareBytes_eq a b
    by_cases h1 : x.toNat < y.toNat
    · have c : cmpU x y = -1 := by unfold cmpU cmpI; rw [if_pos (by omega)]
      simp [Lib.compareBytes, listC, orC, c, UInt8.lt_iff_toNat_lt, h1]
    · by_cases h2 : y.toNat < x.toNat
      · have c : cmpU x y = 1 := by unfold cmpU cmpI; rw [if_neg (by omega), if_pos (by omega)]
        simp [Lib.compareBytes, listC, orC, c, UInt8.lt_iff_toNat_lt, h1, h2]
      · have c : cmpU x y = 0 := by unfold cmpU cmpI; rw [if_neg (by omega), if_neg (by omega)]
        simp [Lib.compareBytes, listC, orC, c, UInt8.lt_iff_toNat_lt, h1, h2, ih]
theorem bytesLess_eq : ∀ a b, Op.bytesLess a b = decide (cmpT a b = -1)
  | [], [] => rfl
  | [], _ :: _ => rfl
  | _ :: _, [] => rfl
  | x :: a, y :: b => by
    unfold Op.bytesLess
    simp only [listC, cmpU, cmpI, orC]
    rw [bytesLess_eq a b]
    by_cases h1 : x < y
    · have := UInt8.lt_iff_toNat_lt.1 h1
      simp [h1, this]
    · have h1' : ¬ x.toNat < y.toNat := fun h => h1 (UInt8.lt_iff_toNat_lt.2 h)
      have h1'' : ¬ ((x.toNat : Int) < (y.toNat : Int)) := by omega
      by_cases h2 : x = y
      · subst h2; simp [h1]
      · have h3 : y.toNat < x.toNat := by
          rcases Nat.lt_or_ge y.toNat x.toNat with h | h
          · exact h
          · exact absurd (UInt8.toNat_inj.1 (by omega)) h2
        have h3' : (y.toNat : Int) < (x.toNat : Int) := by omega
        simp [h1, h2, h1'', h3']
def dig1 (c : UInt8) : Bool := decide (48 ≤ c.toNat) && decide (c.toNat ≤ 57)
def allDig (l : List UInt8) : Bool := l.all dig1 && !l.isEmpty
def wordKey (l : List UInt8) : Int × Int × List UInt8 := if allDig l then (0, (l.length : Int), l) else (1, 0, l)
/-- Words of what is ahead of a version. -/
def cmpW (a b : List UInt8) : Int := (fun (x y : Int × Int × List UInt8) => orC (cmpI x.1 y.1) (orC (cmpI x.2.1 y.2.1) (cmpT x.2.2 y.2.2))) (wordKey a) (wordKey b)
theorem lin_cmpW : Lin cmpW := (lin_cmpI.prod (lin_cmpI.prod lin_cmpT)).pull wordKey fun x y h => by
  unfold wordKey at h
  split at h <;> split at h <;> simp_all
theorem splitB_inj (c : UInt8) : ∀ x y, splitB c x = splitB c y → x = y
  | [], [], _ => rfl
  | [], b :: y, h => by
    have h1 := splitB_length c (b :: y)
    rw [← h] at h1
    unfold splitB at h
    split at h
    · have := splitB_ne c y
      injection h with _ h
      exact absurd h.symm this
    · split at h <;> cases h
  | a :: x, [], h => by
    unfold splitB at h
    split at h
    · have := splitB_ne c x
      injection h with _ h
      exact absurd h this
    · split at h <;> cases h
  | a :: x, b :: y, h => by
    have hx := splitB_ne c x
    have hy := splitB_ne c y
    rw [splitB, splitB] at h
    cases hsx : splitB c x with
    | nil => exact absurd hsx hx
    | cons w ws =>
      cases hsy : splitB c y with
      | nil => exact absurd hsy hy
      | cons v vs =>
        rw [hsx, hsy] at h
        by_cases ha : (a == c) = true
        · by_cases hb : (b == c) = true
          · rw [if_pos ha, if_pos hb] at h
            injection h with _ h
            rw [splitB_inj c x y (by rw [hsx, hsy, h])]
            have := (beq_iff_eq.1 ha).trans (beq_iff_eq.1 hb).symm
            rw [this]
          · rw [if_pos ha, if_neg hb] at h
            cases h
        · by_cases hb : (b == c) = true
          · rw [if_neg ha, if_pos hb] at h
            cases h
          · rw [if_neg ha, if_neg hb] at h
            injection h with h1 h2
            injection h1 with h3 h4
            rw [h3, splitB_inj c x y (by rw [hsx, hsy, h4, h2])]
def preKey (l : List UInt8) : Int × List (List UInt8) := if l = [] then (1, []) else (0, splitB 46 l)
/-- What is ahead of versions. -/
def cmpP (a b : List UInt8) : Int := (fun (x y : Int × List (List UInt8)) => orC (cmpI x.1 y.1) (listC cmpW x.2 y.2)) (preKey a) (preKey b)
theorem lin_cmpP : Lin cmpP := (lin_cmpI.prod lin_cmpW.list).pull preKey fun x y h => by
  unfold preKey at h
  split at h <;> split at h
  · simp_all
  · simp at h
  · simp at h
  · injection h with _ h; exact splitB_inj 46 _ _ h
/-- A version: r5's data. -/
abbrev Ver := Int × Int × Int × ByteArray × Unit
def verKey (v : Ver) : Int × Int × Int × List UInt8 := (v.1, v.2.1, v.2.2.1, bs v.2.2.2.1)
def cmpV (a b : Ver) : Int := (fun (x y : Int × Int × Int × List UInt8) => orC (cmpI x.1 y.1) (orC (cmpI x.2.1 y.2.1) (orC (cmpI x.2.2.1 y.2.2.1) (cmpP x.2.2.2 y.2.2.2)))) (verKey a) (verKey b)
theorem lin_cmpV : Lin cmpV := (lin_cmpI.prod (lin_cmpI.prod (lin_cmpI.prod lin_cmpP))).pull verKey fun x y h => by
  obtain ⟨a, b, c, d, u⟩ := x
  obtain ⟨a', b', c', d', u'⟩ := y
  simp only [verKey, Prod.mk.injEq] at h
  obtain ⟨h1, h2, h3, h4⟩ := h
  rw [h1, h2, h3, bs_inj h4]
abbrev Req := ByteArray × Ver
def reqKey (r : Req) : List UInt8 × Ver := (bs r.1, r.2)
def cmpR (a b : Req) : Int := (fun (x y : List UInt8 × Ver) => orC (cmpT x.1 y.1) (cmpV x.2 y.2)) (reqKey a) (reqKey b)
theorem lin_cmpR : Lin cmpR := (lin_cmpT.prod lin_cmpV).pull reqKey fun x y h => by
  simp only [reqKey, Prod.mk.injEq] at h
  exact Prod.ext (bs_inj h.1) h.2
end Go.Vx
/-! What the program's comparisons come to. -/
namespace Go.Vx.Z
open Go Go.Vx
set_option linter.unusedVariables false
theorem F62_is (a b : Int) : F62 (a, b, ()) = some (cmpI a b, ()) := by
  rw [F62_eq, F78_eq, F78_eq]
  simp only [beq_self_eq_true, Bool.not_true, Option.bind_some, cond_false]
  unfold cmpI
  by_cases h1 : a < b
  · simp [h1]
  · by_cases h2 : b < a
    · simp [h1, h2]
    · simp [h1, h2]
theorem F88_is (a b : ByteArray) : F88 (a, b, ()) = some (cmpT (bs a) (bs b), ()) := by
  rw [F88_eq, F92_eq, F92_eq]
  simp only [beq_self_eq_true, Bool.not_true, Option.bind_some, cond_false, bs_toList, bytesLess_eq]
  have r := lin_cmpT.rng (bs a) (bs b)
  by_cases h1 : cmpT (bs a) (bs b) = -1
  · simp [h1]
  · by_cases h2 : bs a = bs b
    · have := (lin_cmpT.eq0 (bs a) (bs b)).2 h2
      simp [h1, h2, this, lin_cmpT.self]
    · have : cmpT (bs a) (bs b) ≠ 0 := fun h => h2 ((lin_cmpT.eq0 _ _).1 h)
      have : cmpT (bs a) (bs b) = 1 := by omega
      have e : (bs a == bs b) = false := by simpa using h2
      simp [this, e]
theorem all_take (l : List UInt8) (i : Nat) (h : i < l.length) : (l.take (i + 1)).all dig1 = ((l.take i).all dig1 && dig1 l[i]) := by
  rw [List.take_succ_eq_append_getElem h, List.all_append]; simp
theorem F87_is (s : ByteArray) (hs : s.size ≤ 1099511627776) : F87 (s, ()) = some (allDig (bs s), ()) := by
  rw [F87_eq]
  have hl := bs_size s
  obtain ⟨e, h1, h2⟩ := loop_inv (B := B87_0) (fun p => ∃ i : Nat, i ≤ s.size ∧ (bs s |>.take i).all dig1 = true ∧ p = (s, Int.ofNat s.size, (i : Int), ())) (fun p => (Int.ofNat s.size - p.2.2.1).toNat)
    (fun e => (e = .inl (false, ()) ∧ (bs s).all dig1 = false) ∨ (e = .inr (s, ()) ∧ (bs s).all dig1 = true)) (by
      rintro p ⟨i, hi, ha, rfl⟩
      rw [B87_0_eq]
      by_cases hlt : i < s.size
      · have e1 : decide ((i : Int) < Int.ofNat s.size) = true := by simp; omega
        have e2 : decide (Int.ofNat 0 ≤ (i : Int)) = true := by simp
        have hb := bt_eq s i hlt
        have hil : i < (bs s).length := by omega
        simp only [e1, e2, Bool.and_self, cond_true]
        rw [hb]
        have hall : ∀ q, q < (bs s).length → dig1 ((bs s)[q]!) = false → (bs s).all dig1 = false := by
          intro q hq hd
          rw [List.all_eq_false]
          refine ⟨(bs s)[q], List.getElem_mem hq, ?_⟩
          rw [getElem!_pos (bs s) q hq] at hd
          simp [hd]
        by_cases h1 : ((bs s)[i].toNat : Int) < Int.ofNat 48
        · have e3 : decide (((bs s)[i].toNat : Int) < Int.ofNat 48) = true := by simp at h1 ⊢; exact h1
          rw [e3]
          refine .inr ⟨_, rfl, .inl ⟨rfl, hall i hil ?_⟩⟩
          rw [getElem!_pos (bs s) i hil]
          have : ¬ 48 ≤ (bs s)[i].toNat := by simp at h1; omega
          simp [dig1, this]
        · have e3 : decide (((bs s)[i].toNat : Int) < Int.ofNat 48) = false := by simp at h1 ⊢; exact h1
          rw [e3]
          simp only [cond_false]
          by_cases h2 : ((bs s)[i].toNat : Int) > Int.ofNat 57
          · have e4 : decide (((bs s)[i].toNat : Int) > Int.ofNat 57) = true := by simp at h2 ⊢; exact h2
            rw [e4]
            refine .inr ⟨_, rfl, .inl ⟨rfl, hall i hil ?_⟩⟩
            rw [getElem!_pos (bs s) i hil]
            have : ¬ (bs s)[i].toNat ≤ 57 := by simp at h2; omega
            simp [dig1, this]
          · have e4 : decide (((bs s)[i].toNat : Int) > Int.ofNat 57) = false := by simp at h2 ⊢; exact h2
            rw [e4]
            have hd : dig1 (bs s)[i] = true := by simp [dig1]; simp at h1 h2; omega
            refine .inl ⟨(s, Int.ofNat s.size, ((i + 1 : Nat) : Int), ()), ?_, ⟨i + 1, by omega, by rw [all_take _ _ hil, ha, hd]; rfl, rfl⟩, ?_⟩
            · simp only [cond_false]
              rw [show IntKind.wrap IntKind.i64 ((i : Int) + Int.ofNat 1) = ((i + 1 : Nat) : Int) from wrap64s i (by omega)]
            · simp; omega
      · have e1 : decide ((i : Int) < Int.ofNat s.size) = false := by simp; omega
        rw [e1]
        refine .inr ⟨_, rfl, .inr ⟨rfl, ?_⟩⟩
        rw [List.take_of_length_le (by omega)] at ha
        exact ha) (s, Int.ofNat s.size, Int.ofNat 0, ()) ⟨0, by omega, by simp, rfl⟩
  rw [h1]
  simp only [Option.bind_some]
  rcases h2 with ⟨rfl, h3⟩ | ⟨rfl, h3⟩
  · simp [allDig, h3]
  · simp only [Sum.elim_inr, allDig, h3, Bool.true_and, bs_toList]
    cases bs s <;> rfl
theorem F61_is (l : List Int) (hl : l.length < 1000) : F61 (l, ()) = some ((l.find? (· != 0)).getD 0, ()) := by
  rw [F61_eq]
  have key : ∀ (k i : Nat), i + k = l.length → loop B61_0 (Int.ofNat 0, l, Int.ofNat l.length, (i : Int), ()) = some (match (l.drop i).find? (· != 0) with | some y => .inl (y, ()) | none => .inr (0, ())) := by
    intro k
    induction k with
    | zero =>
      intro i hi
      refine loop_end ?_
      rw [B61_0_eq]
      have e1 : decide ((i : Int) < Int.ofNat l.length) = false := by simp; omega
      rw [e1, List.drop_of_length_le (by omega)]
      rfl
    | succ k ih =>
      intro i hi
      have e1 : decide ((i : Int) < Int.ofNat l.length) = true := by simp; omega
      have e2 : decide (Int.ofNat 0 ≤ (i : Int)) = true := by simp
      have e3 : l[i]? = some (l[i]'(by omega)) := List.getElem?_eq_getElem _
      have hd : l.drop i = l[i]'(by omega) :: l.drop (i + 1) := List.drop_eq_getElem_cons (by omega)
      by_cases hz : (l[i]'(by omega)) = 0
      · refine loop_step (q := (Int.ofNat 0, l, Int.ofNat l.length, ((i + 1 : Nat) : Int), ())) ?_ ?_
        · rw [B61_0_eq]
          simp only [e1, e2, cond_true, Int.toNat_natCast, e3, Option.bind_some]
          rw [show IntKind.wrap IntKind.i64 ((i : Int) + Int.ofNat 1) = ((i + 1 : Nat) : Int) from wrap64s i (by omega), hz]
          rfl
        · rw [ih (i + 1) (by omega), hd, List.find?_cons]
          simp [hz]
      · refine loop_end ?_
        rw [B61_0_eq]
        simp only [e1, e2, cond_true, Int.toNat_natCast, e3, Option.bind_some]
        rw [hd, List.find?_cons]
        have : ((l[i]'(by omega)) == Int.ofNat 0) = false := by simpa using hz
        have h2 : ((l[i]'(by omega)) != 0) = true := by simpa using hz
        rw [this, h2]
        rfl
  have := key l.length 0 (by omega)
  rw [show (((0 : Nat)) : Int) = Int.ofNat 0 from rfl] at this
  rw [this, List.drop_zero]
  cases l.find? (· != 0) <;> rfl
theorem wordKey_or (a b : List UInt8) : cmpW a b = if allDig a then (if allDig b then orC (cmpI a.length b.length) (cmpT a b) else -1) else (if allDig b then 1 else cmpT a b) := by
  unfold cmpW wordKey
  cases h1 : allDig a <;> cases h2 : allDig b <;> simp [orC, cmpI]
theorem F81_is (a b : ByteArray) (ha : a.size ≤ 1099511627776) (hb : b.size ≤ 1099511627776) : F81 (a, b, ()) = some (cmpW (bs a) (bs b), ()) := by
  have hsa : Int.ofNat a.size = ((bs a).length : Int) := by rw [bs_size]; rfl
  have hsb : Int.ofNat b.size = ((bs b).length : Int) := by rw [bs_size]; rfl
  rw [F81_eq, F87_is a ha, F87_is b hb, wordKey_or, F88_is, F62_is, hsa, hsb]
  simp only [Option.bind_some]
  rw [F61_is _ (by simp)]
  cases h1 : allDig (bs a) <;> cases h2 : allDig (bs b)
  · simp
  · simp
  · simp
  · simp only [cond_true, Option.bind_some, orC, if_true]
    by_cases h : cmpI (bs a).length (bs b).length = 0
    · by_cases h' : cmpT (bs a) (bs b) = 0
      · simp [h, h']
      · simp [h, h']
    · simp [h]
theorem F79_is (xs ys : List ByteArray) (hx : xs.length ≤ 1099511627776) (hxs : ∀ x ∈ xs, x.size ≤ 1099511627776) (hys : ∀ x ∈ ys, x.size ≤ 1099511627776) : F79 (xs, ys, ()) = some (listC cmpW (xs.map bs) (ys.map bs), ()) := by
  rw [F79_eq]
  have key : ∀ (k i : Nat), i + k = xs.length → ∃ e, loop B79_0 (xs, ys, xs, Int.ofNat xs.length, (i : Int), ()) = some e ∧
      Sum.elim (fun (p : Int × Unit) => some (p.1, ())) (fun (p : List ByteArray × List ByteArray × Unit) => bif decide (Int.ofNat (List.length p.1) < Int.ofNat (List.length p.2.1)) then some (Int.negSucc 0, ()) else some (Int.ofNat 0, ())) e = some (listC cmpW ((xs.drop i).map bs) ((ys.drop i).map bs), ()) ∨ ys.length < i := by
    intro k
    induction k with
    | zero =>
      intro i hi
      by_cases hy : ys.length < i
      · exact ⟨.inl (0, ()), .inr hy⟩
      refine ⟨.inr (xs, ys, ()), .inl ⟨loop_end ?_, ?_⟩⟩
      · rw [B79_0_eq]
        have e1 : decide ((i : Int) < Int.ofNat xs.length) = false := by simp; omega
        rw [e1]; rfl
      · rw [List.drop_of_length_le (l := xs) (by omega)]
        simp only [Sum.elim_inr]
        cases hd : ys.drop i with
        | nil =>
          have := List.drop_eq_nil_iff.1 hd
          have e1 : decide (Int.ofNat xs.length < Int.ofNat ys.length) = false := by simp; omega
          rw [e1]; rfl
        | cons y l =>
          have : i < ys.length := by
            rcases Nat.lt_or_ge i ys.length with h | h
            · exact h
            · rw [List.drop_of_length_le h] at hd; cases hd
          have e1 : decide (Int.ofNat xs.length < Int.ofNat ys.length) = true := by simp; omega
          rw [e1]; rfl
    | succ k ih =>
      intro i hi
      by_cases hy : ys.length < i
      · exact ⟨.inl (0, ()), .inr hy⟩
      have hil : i < xs.length := by omega
      have e1 : decide ((i : Int) < Int.ofNat xs.length) = true := by simp; omega
      have e2 : decide (Int.ofNat 0 ≤ (i : Int)) = true := by simp
      have e3 : xs[i]? = some xs[i] := List.getElem?_eq_getElem _
      have hdx : xs.drop i = xs[i] :: xs.drop (i + 1) := List.drop_eq_getElem_cons hil
      by_cases hyi : i < ys.length
      · have e4 : decide ((i : Int) ≥ Int.ofNat ys.length) = false := by simp; omega
        have e5 : ys[i]? = some ys[i] := List.getElem?_eq_getElem _
        have hdy : ys.drop i = ys[i] :: ys.drop (i + 1) := List.drop_eq_getElem_cons hyi
        have hw := F81_is xs[i] ys[i] (hxs _ (List.getElem_mem _)) (hys _ (List.getElem_mem _))
        by_cases hc : cmpW (bs xs[i]) (bs ys[i]) = 0
        · obtain ⟨e, h | h⟩ := ih (i + 1) (by omega)
          · obtain ⟨h1, h2⟩ := h
            refine ⟨e, .inl ⟨loop_step ?_ h1, ?_⟩⟩
            · rw [B79_0_eq]
              simp only [e1, e2, e4, cond_true, cond_false, Int.toNat_natCast, e3, e5, Option.bind_some, hw, hc]
              rw [show IntKind.wrap IntKind.i64 ((i : Int) + Int.ofNat 1) = ((i + 1 : Nat) : Int) from wrap64s i (by omega)]
              rfl
            · rw [h2, hdx, hdy]
              simp only [List.map_cons, listC, orC, hc, if_true]
          · omega
        · refine ⟨.inl (cmpW (bs xs[i]) (bs ys[i]), ()), .inl ⟨loop_end ?_, ?_⟩⟩
          · rw [B79_0_eq]
            have : (cmpW (bs xs[i]) (bs ys[i]) == Int.ofNat 0) = false := by simpa using hc
            simp only [e1, e2, e4, cond_true, cond_false, Int.toNat_natCast, e3, e5, Option.bind_some, hw, this, Bool.not_false]
          · rw [hdx, hdy]
            simp only [List.map_cons, listC, orC, hc, if_false, Sum.elim_inl]
      · have e4 : decide ((i : Int) ≥ Int.ofNat ys.length) = true := by simp; omega
        refine ⟨.inl (1, ()), .inl ⟨loop_end ?_, ?_⟩⟩
        · rw [B79_0_eq]
          simp only [e1, e2, e4, cond_true, Int.toNat_natCast, e3, Option.bind_some]
          rfl
        · rw [hdx, List.drop_of_length_le (l := ys) (by omega)]
          rfl
  obtain ⟨e, h | h⟩ := key xs.length 0 (by omega)
  · obtain ⟨h1, h2⟩ := h
    have h1' : loop B79_0 (xs, ys, xs, Int.ofNat xs.length, Int.ofNat 0, ()) = some e := h1
    rw [h1']
    simp only [Option.bind_some, List.drop_zero] at h2 ⊢
    exact h2
  · omega
theorem splitDot_sizes (s : ByteArray) : ∀ x ∈ splitDot s, x.size ≤ s.size := by
  have key : ∀ l : List UInt8, ∀ w ∈ splitB 46 l, w.length ≤ l.length := by
    intro l
    induction l with
    | nil => intro w hw; simp [splitB] at hw; subst hw; simp
    | cons x l ih =>
      intro w hw
      unfold splitB at hw
      split at hw
      · rcases List.mem_cons.1 hw with rfl | hw
        · simp
        · have := ih w hw; simp; omega
      · split at hw
        · simp at hw; subst hw; simp
        · rename_i v vs hs
          rcases List.mem_cons.1 hw with rfl | hw
          · have := ih v (by rw [hs]; simp); simp; omega
          · have := ih w (by rw [hs]; simp [hw]); simp; omega
  intro x hx
  unfold splitDot at hx
  obtain ⟨w, h1, rfl⟩ := List.mem_map.1 hx
  have := key _ w h1
  rw [bs_size, bs_size s, bs_lit]
  exact this
theorem F63_is (a b : ByteArray) (ha : a.size ≤ 1099511627000) (hb : b.size ≤ 1099511627000) : F63 (a, b, ()) = some (cmpP (bs a) (bs b), ()) := by
  rw [F63_eq]
  simp only [bs_toList]
  unfold cmpP preKey
  by_cases h1 : bs a = bs b
  · simp only [h1, beq_self_eq_true, cond_true]
    simp [orC, cmpI, lin_cmpW.list.self]
  · have e1 : (bs a == bs b) = false := by simpa using h1
    rw [e1]
    simp only [cond_false]
    by_cases h2 : bs a = []
    · have h3 : bs b ≠ [] := fun h => h1 (by rw [h2, h])
      simp [h2, h3, orC, cmpI]
    · have e2 : (bs a == []) = false := by simpa using h2
      rw [e2]
      simp only [cond_false]
      by_cases h3 : bs b = []
      · simp [h2, h3, orC, cmpI]
      · have e3 : (bs b == []) = false := by simpa using h3
        have hd : lit [46] = dot := rfl
        have hla : (splitDot a).length ≤ 1099511627776 := by
          unfold splitDot
          rw [List.length_map, splitB_length]
          have : (bs a).count 46 ≤ (bs a).length := List.count_le_length
          rw [← bs_size] at this
          omega
        rw [e3, hd, F80_dot a (by omega), F80_dot b (by omega)]
        simp only [cond_false, Option.bind_some]
        rw [F79_is _ _ hla (fun x hx => by have := splitDot_sizes a x hx; omega) (fun x hx => by have := splitDot_sizes b x hx; omega)]
        have hm : ∀ s, (splitDot s).map bs = splitB 46 (bs s) := fun s => by
          unfold splitDot
          rw [List.map_map]
          have : (bs ∘ lit) = id := by funext x; rfl
          rw [this, List.map_id]
        simp [h2, h3, orC, cmpI, hm]
theorem or4 (c1 c2 c3 c4 : Int) : (([c1, c2, c3, c4].find? (· != 0)).getD 0) = orC c1 (orC c2 (orC c3 c4)) := by
  unfold orC
  by_cases h1 : c1 = 0
  · by_cases h2 : c2 = 0
    · by_cases h3 : c3 = 0
      · by_cases h4 : c4 = 0 <;> simp [h1, h2, h3, h4]
      · simp [h1, h2, h3]
    · simp [h1, h2]
  · simp [h1]
/-- A version of bounded size. -/
def okV (v : Ver) : Bool := decide (v.2.2.2.1.size ≤ 1099511627000)
def okR (r : Req) : Bool := decide (r.1.size ≤ 1099511627000) && okV r.2
theorem F39_is (a b : Ver) (ha : okV a = true) (hb : okV b = true) : F39 (a.1, a.2.1, a.2.2.1, a.2.2.2.1, b.1, b.2.1, b.2.2.1, b.2.2.2.1, ()) = some (cmpV a b, ()) := by
  rw [F39_eq, F62_is, F62_is, F62_is, F63_is _ _ (by simpa [okV] using ha) (by simpa [okV] using hb)]
  simp only [Option.bind_some]
  rw [F61_is _ (by simp)]
  simp only [Option.bind_some, cmpV, verKey, or4]
theorem F38_is (a b : ByteArray) : F38 (a, b, ()) = some (cmpT (bs a) (bs b), ()) := by
  rw [F38_eq, F60_eq]
  simp only [Option.bind_some]
  rw [show xCompare a b = Lib.compareBytes (bs a) (bs b) from Lib.cmp_eq a b, compareBytes_eq]
theorem F25_is (a b : Req) (ha : okR a = true) (hb : okR b = true) : F25 (toP r0 a (toP r0 b ())) = some (cmpR a b, ()) := by
  simp only [okR, Bool.and_eq_true] at ha hb
  show F25 (a.1, a.2.1, a.2.2.1, a.2.2.2.1, a.2.2.2.2.1, b.1, b.2.1, b.2.2.1, b.2.2.2.1, b.2.2.2.2.1, ()) = _
  refine (F25_eq _ _ _ _ _ _ _ _ _ _).trans ?_
  rw [F38_is, F39_is a.2 b.2 ha.2 hb.2]
  simp only [Option.bind_some]
  have hc : cmpR a b = orC (cmpT (bs a.1) (bs b.1)) (cmpV a.2 b.2) := rfl
  rw [hc]
  generalize cmpT (bs a.1) (bs b.1) = c
  by_cases h : c = 0
  · subst h; rfl
  · have : (c == Int.ofNat 0) = false := by simpa using h
    rw [this]
    simp [orC, h]
end Go.Vx.Z
namespace Go.Proofs
open Go.Shelf
def Tryd.sortReq_ren : Go.Shelf.Ren := ⟨fun | 6 => 24 | 15 => 37 | 14 => 36 | 28 => 58 | 29 => 59 | 20 => 50 | 21 => 51 | 22 => 52 | 23 => 53 | 24 => 54 | 25 => 55 | 26 => 56 | 27 => 57 | 46 => 72 | 47 => 73 | 48 => 74 | 49 => 75 | 50 => 76 | 57 => 85 | n => n, fun | 22 => 35 | 24 => 39 | 25 => 79 | 3 => 3 | 39 => 99 | 0 => 0 | 53 => 121 | 55 => 123 | 4 => 4 | 46 => 114 | 45 => 113 | 50 => 118 | 5 => 5 | 9 => 9 | 66 => 133 | 70 => 137 | 76 => 143 | 77 => 144 | n => n, fun | n => n⟩
theorem Tryd.sortReq : Go.Proofs.SlLaysF0.n6 Tryd.prog Tryd.sortReq_ren := {
  mixed := by kernel_rfl,
  f6 := ⟨Tryd.f24.name, by decide, Tryd.func24.trans (congrArg some (by kernel_rfl))⟩,
  f14 := ⟨Tryd.f36.name, by decide, Tryd.func36.trans (congrArg some (by kernel_rfl))⟩,
  f15 := Tryd.func37.trans (congrArg some (by kernel_rfl)),
  f20 := ⟨Tryd.f50.name, by decide, Tryd.func50.trans (congrArg some (by kernel_rfl))⟩,
  f21 := ⟨Tryd.f51.name, by decide, Tryd.func51.trans (congrArg some (by kernel_rfl))⟩,
  f22 := ⟨Tryd.f52.name, by decide, Tryd.func52.trans (congrArg some (by kernel_rfl))⟩,
  f23 := ⟨Tryd.f53.name, by decide, Tryd.func53.trans (congrArg some (by kernel_rfl))⟩,
  f24 := ⟨Tryd.f54.name, by decide, Tryd.func54.trans (congrArg some (by kernel_rfl))⟩,
  f25 := ⟨Tryd.f55.name, by decide, Tryd.func55.trans (congrArg some (by kernel_rfl))⟩,
  f26 := ⟨Tryd.f56.name, by decide, Tryd.func56.trans (congrArg some (by kernel_rfl))⟩,
  f27 := ⟨Tryd.f57.name, by decide, Tryd.func57.trans (congrArg some (by kernel_rfl))⟩,
  f28 := Tryd.func58.trans (congrArg some (by kernel_rfl)),
  f29 := Tryd.func59.trans (congrArg some (by kernel_rfl)),
  f46 := ⟨Tryd.f72.name, by decide, Tryd.func72.trans (congrArg some (by kernel_rfl))⟩,
  f47 := Tryd.func73.trans (congrArg some (by kernel_rfl)),
  f48 := Tryd.func74.trans (congrArg some (by kernel_rfl)),
  f49 := ⟨Tryd.f75.name, by decide, Tryd.func75.trans (congrArg some (by kernel_rfl))⟩,
  f50 := ⟨Tryd.f76.name, by decide, Tryd.func76.trans (congrArg some (by kernel_rfl))⟩,
  f57 := ⟨Tryd.f85.name, by decide, Tryd.func85.trans (congrArg some (by kernel_rfl))⟩,
  t0 := Tryd.underlying0,
  a0 := Tryd.isAgg0,
  z0 := Tryd.sizeOf0,
  v0 := Tryd.zeroValue0,
  t3 := Tryd.underlying3,
  a3 := Tryd.isAgg3,
  z3 := Tryd.sizeOf3,
  v3 := Tryd.zeroValue3,
  t4 := Tryd.underlying4,
  a4 := Tryd.isAgg4,
  z4 := Tryd.sizeOf4,
  v4 := Tryd.zeroValue4,
  t5 := Tryd.underlying5,
  a5 := Tryd.isAgg5,
  z5 := Tryd.sizeOf5,
  v5 := Tryd.zeroValue5,
  t9 := Tryd.underlying9,
  a9 := Tryd.isAgg9,
  z9 := Tryd.sizeOf9,
  v9 := Tryd.zeroValue9,
  t22 := Tryd.underlying35,
  a22 := Tryd.isAgg35,
  z22 := Tryd.sizeOf35,
  v22 := Tryd.zeroValue35,
  t25 := Tryd.underlying79,
  a25 := Tryd.isAgg79,
  z25 := Tryd.sizeOf79,
  v25 := Tryd.zeroValue79,
  t39 := Tryd.underlying99,
  a39 := Tryd.isAgg99,
  z39 := Tryd.sizeOf99,
  v39 := Tryd.zeroValue99,
  t45 := Tryd.underlying113,
  a45 := Tryd.isAgg113,
  z45 := Tryd.sizeOf113,
  v45 := Tryd.zeroValue113,
  t46 := Tryd.underlying114,
  a46 := Tryd.isAgg114,
  z46 := Tryd.sizeOf114,
  v46 := Tryd.zeroValue114,
  t50 := Tryd.underlying118,
  a50 := Tryd.isAgg118,
  z50 := Tryd.sizeOf118,
  v50 := Tryd.zeroValue118,
  t53 := Tryd.underlying121,
  a53 := Tryd.isAgg121,
  z53 := Tryd.sizeOf121,
  v53 := Tryd.zeroValue121,
  t55 := Tryd.underlying123,
  a55 := Tryd.isAgg123,
  z55 := Tryd.sizeOf123,
  v55 := Tryd.zeroValue123,
  t66 := Tryd.underlying133,
  a66 := Tryd.isAgg133,
  z66 := Tryd.sizeOf133,
  v66 := Tryd.zeroValue133,
  t70 := Tryd.underlying137,
  a70 := Tryd.isAgg137,
  z70 := Tryd.sizeOf137,
  v70 := Tryd.zeroValue137,
  t76 := Tryd.underlying143,
  a76 := Tryd.isAgg143,
  z76 := Tryd.sizeOf143,
  v76 := Tryd.zeroValue143,
  t77 := Tryd.underlying144,
  a77 := Tryd.isAgg144,
  z77 := Tryd.sizeOf144,
  v77 := Tryd.zeroValue144 }
end Go.Proofs
namespace Go.Vx.Z
open Go Go.Vx Go.Proofs
set_option linter.unusedVariables false
@[reducible] def sh43 : Shape := ⟨[(0, .one (.clo 44 [some (100000, 0)]))], [(100000, .box [.d (.list r0)])]⟩
@[reducible] def out43 : Shape := ⟨[(0, .one (.own 200000))], [(100000, .box [.d (.list r0)]), (200000, .lst 39 r0 false)]⟩
@[reducible] def sh24 : Shape := ⟨[(0, .one (.own 100000)), (1, .one (.fn 25))], [(100000, .lst 39 r0 false)]⟩
@[reducible] def out24 : Shape := ⟨[], [(100000, .lst 39 r0 false)]⟩
def F24 : sh24.D → Option out24.D := FSort r0 39 25 okR cmpR
noncomputable def b43 : Code := Tryd.f43.body.getD .skip
noncomputable def cx43 : Cx := ⟨Tryd.prog, [e68], [4], 5, [], []⟩
noncomputable def F43 : sh43.D → Option out43.D := func cx43 Tryd.f43 b43 sh43 out43
theorem F43_eq (xs : List r0.D) : F43 (xs, ()) = bif decide (List.length xs ≤ 2513169434916) then some (xs, xs, ()) else none := by
  show (F68 (xs, ())).bind _ = _
  unfold F68
  cases h : decide (List.length xs ≤ 2513169434916) with
  | false => simp only [h, cond_false]; rfl
  | true => simp only [h, cond_true]; kernel_rfl
noncomputable def e24 : FE := ⟨24, sh24, out24, F24⟩
noncomputable def e43 : FE := ⟨43, sh43, out43, F43⟩
theorem ok24 : FEOK Tryd.prog e24 :=
  sort_ok (P := Tryd.prog) (ρ := Tryd.sortReq_ren) Tryd.sortReq (fun p cap fv w => AnyF.slices_SortFunc_none Tryd.sortReq p cap fv w) (enters_of Tryd.func24 (by kernel_rfl) rfl) (r := r0) (e := 39) (g := 25) Tryd.isAgg39 Tryd.sizeOf39
    (Fc := F25) ok25 (enters_of Tryd.func25 (by kernel_rfl) rfl) cmpR okR F25_is lin_cmpR.swo
theorem ok43 : FEOK Tryd.prog e43 := func_ok (cx := cx43) (fn := Tryd.f43) (c := b43) (all_fe (P := Tryd.prog) (l := [e68]) ⟨ok68, trivial⟩) (by kernel_rfl) (by kernel_rfl) (by kernel_rfl) (by kernel_rfl) (by kernel_rfl) (needs_of (l := []) (by kernel_rfl) trivial)
end Go.Vx.Z
namespace Go.Vx.Z
open Go Go.Vx Go.Proofs
set_option linter.unusedVariables false
set_option maxRecDepth 1000000
set_option maxHeartbeats 4000000


end Go.Vx.Z
namespace Go.Vx.Z
open Go Go.Vx Go.Proofs
set_option linter.unusedVariables false
set_option maxRecDepth 1000000
set_option maxHeartbeats 4000000

@[reducible] def sh20 : Shape := ⟨[(0, .row [.d .str, .d (.list r0), .d (.list r0), .d (.list r4), .d (.list r2), .d (.list r3)]), (1, .row [.d .str, .d (.int .i64), .d (.int .i64), .d (.int .i64), .d .str])], []⟩
@[reducible] def out20 : Shape := ⟨[(0, .one (.d (.list r0))), (1, .one (.d (.int .i64)))], []⟩
noncomputable def b20 : Code := Tryd.f20.body.getD .skip
noncomputable def cx20 : Cx := ⟨Tryd.prog, [e23, e24, e28, e29, e30, e31], [], 56, [], []⟩
noncomputable def F20 : sh20.D → Option out20.D := func cx20 Tryd.f20 b20 sh20 out20
noncomputable def e20 : FE := ⟨20, sh20, out20, F20⟩
theorem ok20 : FEOK Tryd.prog e20 := func_ok (cx := cx20) (fn := Tryd.f20) (c := b20) (all_fe (P := Tryd.prog) (l := [e23, e24, e28, e29, e30, e31]) ⟨ok23, ok24, ok28, ok29, ok30, ok31, trivial⟩) (by kernel_rfl) (by kernel_rfl) (by kernel_rfl) (by kernel_rfl) (by kernel_rfl) (needs_of (l := []) (by kernel_rfl) trivial)
@[reducible] def sh21 : Shape := ⟨[(0, .row [.d .str, .d (.list r0), .d (.list r0), .d (.list r4), .d (.list r2), .d (.list r3)])], []⟩
@[reducible] def out21 : Shape := ⟨[(0, .one (.d (.list r0))), (1, .one (.d (.int .i64)))], []⟩
noncomputable def b21 : Code := Tryd.f21.body.getD .skip
@[reducible] def sh21_0 : Shape := ⟨[(1, .one (.ptr 200000 0)), (4, .one (.own 200001)), (5, .one (.d (.int .i64))), (6, .one (.mp 200002)), (7, .one (.own 200003)), (8, .one (.d (.int .i64)))], [(200000, .box [.d .str, .d (.list r0), .d (.list r0), .d (.list r4), .d (.list r2), .d (.list r3)]), (200001, .lst 39 r0 false), (200002, .mp r0), (200003, .lst 39 r0 true)]⟩
@[reducible] def os21_0 : List (XE × Shape) := [(.ex 0, ⟨[(5, .one (.d (.int .i64))), (7, .one (.own 200000))], [(200000, .lst 39 r0 true)]⟩)]
noncomputable def cx21_0 : Cx := ⟨Tryd.prog, [e20, e23], [52], 57, [], []⟩
noncomputable def B21_0 : sh21_0.D → Option (sh21_0.D ⊕ OutsD os21_0) := round cx21_0 (sub [1, 1, 1, 1, 0, 1, 0, 0] b21) sh21_0 os21_0
noncomputable def ce21_0 : CE := ⟨sh21_0, os21_0, loop B21_0⟩
theorem okc21_0 : CEOK Tryd.prog 57 (.loop (sub [1, 1, 1, 1, 0, 1, 0, 0] b21)) ce21_0 := round_ok (cx := cx21_0) (fun R => step_sound (all_fe (P := Tryd.prog) (l := [e20, e23]) ⟨ok20, ok23, trivial⟩) R) (needs_of (l := []) (by kernel_rfl) trivial) sh21_0 os21_0
noncomputable def cx21 : Cx := ⟨Tryd.prog, [e20, e23], [52], 57, [(10, ce21_0)], []⟩
noncomputable def F21 : sh21.D → Option out21.D := func cx21 Tryd.f21 b21 sh21 out21
noncomputable def e21 : FE := ⟨21, sh21, out21, F21⟩
theorem ok21 : FEOK Tryd.prog e21 := func_ok (cx := cx21) (fn := Tryd.f21) (c := b21) (all_fe (P := Tryd.prog) (l := [e20, e23]) ⟨ok20, ok23, trivial⟩) (by kernel_rfl) (by kernel_rfl) (by kernel_rfl) (by kernel_rfl) (by kernel_rfl) (needs_of (l := [((.loop (sub [1, 1, 1, 1, 0, 1, 0, 0] b21)), ce21_0)]) (by kernel_rfl) ⟨okc21_0, trivial⟩)
@[reducible] def sh32 : Shape := ⟨[(0, .one (.clo 44 [some (100000, 0)])), (1, .one (.fn 25))], [(100000, .box [.d (.list r0)])]⟩
@[reducible] def out32 : Shape := ⟨[(0, .one (.own 200000))], [(100000, .box [.d (.list r0)]), (200000, .lst 39 r0 false)]⟩
noncomputable def b32 : Code := Tryd.f32.body.getD .skip
noncomputable def cx32 : Cx := ⟨Tryd.prog, [e24, e43], [], 12, [], []⟩
noncomputable def F32 : sh32.D → Option out32.D := func cx32 Tryd.f32 b32 sh32 out32
noncomputable def e32 : FE := ⟨32, sh32, out32, F32⟩
theorem ok32 : FEOK Tryd.prog e32 := func_ok (cx := cx32) (fn := Tryd.f32) (c := b32) (all_fe (P := Tryd.prog) (l := [e24, e43]) ⟨ok24, ok43, trivial⟩) (by kernel_rfl) (by kernel_rfl) (by kernel_rfl) (by kernel_rfl) (by kernel_rfl) (needs_of (l := []) (by kernel_rfl) trivial)
@[reducible] def sh22 : Shape := ⟨[(0, .row [.d .str, .d (.list r0), .d (.list r0), .d (.list r4), .d (.list r2), .d (.list r3)]), (1, .one (.d (.list r0)))], []⟩
@[reducible] def out22 : Shape := ⟨[(0, .one (.d (.list r6)))], []⟩
noncomputable def b22 : Code := Tryd.f22.body.getD .skip
@[reducible] def sh22_0 : Shape := ⟨[(1, .one (.own 200000)), (2, .one (.ptr 200001 0)), (5, .one (.own 200002)), (13, .one (.own 200000)), (14, .one (.d (.int .i64))), (15, .one (.d (.int .i64)))], [(200000, .lst 39 r0 false), (200001, .box [.d .str, .d (.list r0), .d (.list r0), .d (.list r4), .d (.list r2), .d (.list r3)]), (200002, .lst 52 r6 true)]⟩
@[reducible] def os22_0 : List (XE × Shape) := [(.ex 0, ⟨[(5, .one (.own 200000))], [(200000, .lst 52 r6 true)]⟩)]
noncomputable def cx22_0 : Cx := ⟨Tryd.prog, [e28, e32, e33, e34], [], 59, [], []⟩
noncomputable def B22_0 : sh22_0.D → Option (sh22_0.D ⊕ OutsD os22_0) := round cx22_0 (sub [1, 1, 1, 0, 1, 0, 0] b22) sh22_0 os22_0
noncomputable def ce22_0 : CE := ⟨sh22_0, os22_0, loop B22_0⟩
theorem okc22_0 : CEOK Tryd.prog 59 (.loop (sub [1, 1, 1, 0, 1, 0, 0] b22)) ce22_0 := round_ok (cx := cx22_0) (fun R => step_sound (all_fe (P := Tryd.prog) (l := [e28, e32, e33, e34]) ⟨ok28, ok32, ok33, ok34, trivial⟩) R) (needs_of (l := []) (by kernel_rfl) trivial) sh22_0 os22_0
noncomputable def cx22 : Cx := ⟨Tryd.prog, [e28, e32, e33, e34], [], 59, [(8, ce22_0)], []⟩
noncomputable def F22 : sh22.D → Option out22.D := func cx22 Tryd.f22 b22 sh22 out22
noncomputable def e22 : FE := ⟨22, sh22, out22, F22⟩
theorem ok22 : FEOK Tryd.prog e22 := func_ok (cx := cx22) (fn := Tryd.f22) (c := b22) (all_fe (P := Tryd.prog) (l := [e28, e32, e33, e34]) ⟨ok28, ok32, ok33, ok34, trivial⟩) (by kernel_rfl) (by kernel_rfl) (by kernel_rfl) (by kernel_rfl) (by kernel_rfl) (needs_of (l := [((.loop (sub [1, 1, 1, 0, 1, 0, 0] b22)), ce22_0)]) (by kernel_rfl) ⟨okc22_0, trivial⟩)
@[reducible] def sh9 : Shape := ⟨[(0, .row [.d (.list r2), .d (.list r3)]), (1, .row [.d .str, .d (.list r0), .d (.list r0), .d (.list r4)])], []⟩
@[reducible] def out9 : Shape := ⟨[(0, .one (.d (.list r6))), (1, .one (.d (.int .i64)))], []⟩
noncomputable def b9 : Code := Tryd.f9.body.getD .skip
noncomputable def cx9 : Cx := ⟨Tryd.prog, [e19, e21, e22], [], 23, [], []⟩
noncomputable def F9 : sh9.D → Option out9.D := func cx9 Tryd.f9 b9 sh9 out9
noncomputable def e9 : FE := ⟨9, sh9, out9, F9⟩
theorem ok9 : FEOK Tryd.prog e9 := func_ok (cx := cx9) (fn := Tryd.f9) (c := b9) (all_fe (P := Tryd.prog) (l := [e19, e21, e22]) ⟨ok19, ok21, ok22, trivial⟩) (by kernel_rfl) (by kernel_rfl) (by kernel_rfl) (by kernel_rfl) (by kernel_rfl) (needs_of (l := []) (by kernel_rfl) trivial)
@[reducible] def sh5 : Shape := ⟨[], []⟩
@[reducible] def out5 : Shape := ⟨[(0, .one (.d .bool))], []⟩
noncomputable def b5 : Code := Tryd.f5.body.getD .skip
noncomputable def cx5 : Cx := ⟨Tryd.prog, [e9, e10], [], 68, [], []⟩
noncomputable def F5 : sh5.D → Option out5.D := func cx5 Tryd.f5 b5 sh5 out5
noncomputable def e5 : FE := ⟨5, sh5, out5, F5⟩
theorem ok5 : FEOK Tryd.prog e5 := func_ok (cx := cx5) (fn := Tryd.f5) (c := b5) (all_fe (P := Tryd.prog) (l := [e9, e10]) ⟨ok9, ok10, trivial⟩) (by kernel_rfl) (by kernel_rfl) (by kernel_rfl) (by kernel_rfl) (by kernel_rfl) (needs_of (l := []) (by kernel_rfl) trivial)
@[reducible] def sh8 : Shape := ⟨[(0, .row [.d (.list r2), .d (.list r3)]), (1, .row [.d .str, .d (.list r0), .d (.list r0), .d (.list r4)]), (2, .row [.d .str, .d (.int .i64), .d (.int .i64), .d (.int .i64), .d .str])], []⟩
@[reducible] def out8 : Shape := ⟨[(0, .one (.d (.list r0))), (1, .one (.d (.int .i64)))], []⟩
noncomputable def b8 : Code := Tryd.f8.body.getD .skip
noncomputable def cx8 : Cx := ⟨Tryd.prog, [e19, e20], [], 15, [], []⟩
noncomputable def F8 : sh8.D → Option out8.D := func cx8 Tryd.f8 b8 sh8 out8
noncomputable def e8 : FE := ⟨8, sh8, out8, F8⟩
theorem ok8 : FEOK Tryd.prog e8 := func_ok (cx := cx8) (fn := Tryd.f8) (c := b8) (all_fe (P := Tryd.prog) (l := [e19, e20]) ⟨ok19, ok20, trivial⟩) (by kernel_rfl) (by kernel_rfl) (by kernel_rfl) (by kernel_rfl) (by kernel_rfl) (needs_of (l := []) (by kernel_rfl) trivial)
@[reducible] def sh3 : Shape := ⟨[(0, .one (.d (.int .i64))), (1, .one (.d (.list (.int .i64)))), (2, .one (.d (.int .i64))), (3, .one (.d (.int .i64)))], []⟩
@[reducible] def out3 : Shape := ⟨[(0, .one (.d .bool))], []⟩
noncomputable def b3 : Code := Tryd.f3.body.getD .skip
noncomputable def cx3 : Cx := ⟨Tryd.prog, [e5, e6, e7, e8, e9, e10, e11], [], 146, [], []⟩
noncomputable def F3 : sh3.D → Option out3.D := func cx3 Tryd.f3 b3 sh3 out3
noncomputable def e3 : FE := ⟨3, sh3, out3, F3⟩
theorem ok3 : FEOK Tryd.prog e3 := func_ok (cx := cx3) (fn := Tryd.f3) (c := b3) (all_fe (P := Tryd.prog) (l := [e5, e6, e7, e8, e9, e10, e11]) ⟨ok5, ok6, ok7, ok8, ok9, ok10, ok11, trivial⟩) (by kernel_rfl) (by kernel_rfl) (by kernel_rfl) (by kernel_rfl) (by kernel_rfl) (needs_of (l := []) (by kernel_rfl) trivial)
@[reducible] def sh12 : Shape := ⟨[(0, .row [.d (.list r2), .d (.list r3)]), (1, .row [.d .str, .d (.list r0), .d (.list r0), .d (.list r4)]), (2, .one (.d .str))], []⟩
@[reducible] def out12 : Shape := ⟨[(0, .one (.d (.list r0))), (1, .one (.d .bool))], []⟩
noncomputable def b12 : Code := Tryd.f12.body.getD .skip
@[reducible] def sh12_0 : Shape := ⟨[(8, .one (.ptr 200000 0)), (13, .one (.ptr 200001 0)), (16, .one (.own 200002)), (17, .one (.mp 200003)), (64, .one (.own 200004)), (65, .one (.d (.int .i64))), (66, .one (.d (.int .i64)))], [(200000, .box [.d .str, .d (.list r0), .d (.list r0), .d (.list r4), .d (.list r2), .d (.list r3)]), (200001, .box [.d .str, .d (.int .i64), .d (.int .i64), .d (.int .i64), .d .str]), (200002, .lst 35 (.list r0) true), (200003, .mp r0), (200004, .lst 39 r0 false)]⟩
@[reducible] def os12_0 : List (XE × Shape) := [(.ex 0, ⟨[(8, .one (.ptr 200000 0)), (13, .one (.ptr 200001 0)), (16, .one (.own 200002)), (17, .one (.mp 200003))], [(200000, .box [.d .str, .d (.list r0), .d (.list r0), .d (.list r4), .d (.list r2), .d (.list r3)]), (200001, .box [.d .str, .d (.int .i64), .d (.int .i64), .d (.int .i64), .d .str]), (200002, .lst 35 (.list r0) true), (200003, .mp r0)]⟩)]
noncomputable def cx12_0 : Cx := ⟨Tryd.prog, [e10, e19, e20, e21, e22, e23, e24, e26], [], 138, [], []⟩
noncomputable def B12_0 : sh12_0.D → Option (sh12_0.D ⊕ OutsD os12_0) := round cx12_0 (sub [1, 1, 1, 1, 1, 1, 1, 1, 1, 1, 0, 1, 0, 0] b12) sh12_0 os12_0
noncomputable def ce12_0 : CE := ⟨sh12_0, os12_0, loop B12_0⟩
theorem okc12_0 : CEOK Tryd.prog 138 (.loop (sub [1, 1, 1, 1, 1, 1, 1, 1, 1, 1, 0, 1, 0, 0] b12)) ce12_0 := round_ok (cx := cx12_0) (fun R => step_sound (all_fe (P := Tryd.prog) (l := [e10, e19, e20, e21, e22, e23, e24, e26]) ⟨ok10, ok19, ok20, ok21, ok22, ok23, ok24, ok26, trivial⟩) R) (needs_of (l := []) (by kernel_rfl) trivial) sh12_0 os12_0
@[reducible] def sh12_1 : Shape := ⟨[(8, .one (.ptr 200000 0)), (13, .one (.ptr 200001 0)), (16, .one (.own 200002)), (17, .one (.mp 200003)), (20, .one (.d (.int .i64))), (114, .one (.d (.list r0))), (115, .one (.d (.int .i64))), (116, .one (.d (.int .i64)))], [(200000, .box [.d .str, .d (.list r0), .d (.list r0), .d (.list r4), .d (.list r2), .d (.list r3)]), (200001, .box [.d .str, .d (.int .i64), .d (.int .i64), .d (.int .i64), .d .str]), (200002, .lst 35 (.list r0) true), (200003, .mp r0)]⟩
@[reducible] def os12_1 : List (XE × Shape) := [(.ex 4, ⟨[(8, .one (.ptr 200000 0)), (13, .one (.ptr 200001 0)), (16, .one (.own 200002)), (17, .one (.mp 200003)), (20, .one (.d (.int .i64)))], [(200000, .box [.d .str, .d (.list r0), .d (.list r0), .d (.list r4), .d (.list r2), .d (.list r3)]), (200001, .box [.d .str, .d (.int .i64), .d (.int .i64), .d (.int .i64), .d .str]), (200002, .lst 35 (.list r0) true), (200003, .mp r0)]⟩)]
noncomputable def cx12_1 : Cx := ⟨Tryd.prog, [e10, e19, e20, e21, e22, e23, e24, e26], [], 138, [(24, ce12_0)], []⟩
noncomputable def B12_1 : sh12_1.D → Option (sh12_1.D ⊕ OutsD os12_1) := round cx12_1 (sub [1, 1, 1, 1, 1, 1, 1, 1, 1, 1, 1, 0, 1, 0, 0, 1, 0, 0, 1, 1, 1, 1, 0, 0] b12) sh12_1 os12_1
noncomputable def ce12_1 : CE := ⟨sh12_1, os12_1, loop B12_1⟩
theorem okc12_1 : CEOK Tryd.prog 138 (.loop (sub [1, 1, 1, 1, 1, 1, 1, 1, 1, 1, 1, 0, 1, 0, 0, 1, 0, 0, 1, 1, 1, 1, 0, 0] b12)) ce12_1 := round_ok (cx := cx12_1) (fun R => step_sound (all_fe (P := Tryd.prog) (l := [e10, e19, e20, e21, e22, e23, e24, e26]) ⟨ok10, ok19, ok20, ok21, ok22, ok23, ok24, ok26, trivial⟩) R) (needs_of (l := []) (by kernel_rfl) trivial) sh12_1 os12_1
@[reducible] def sh12_2 : Shape := ⟨[(8, .one (.ptr 200000 0)), (13, .one (.ptr 200001 0)), (16, .one (.own 200002)), (17, .one (.mp 200003)), (20, .one (.d (.int .i64)))], [(200000, .box [.d .str, .d (.list r0), .d (.list r0), .d (.list r4), .d (.list r2), .d (.list r3)]), (200001, .box [.d .str, .d (.int .i64), .d (.int .i64), .d (.int .i64), .d .str]), (200002, .lst 35 (.list r0) true), (200003, .mp r0)]⟩
@[reducible] def os12_2 : List (XE × Shape) := [(.ret, ⟨[(6, .one (.own 200000)), (7, .one (.d .bool))], [(200000, .lst 39 r0 true)]⟩), (.ex 2, ⟨[], []⟩)]
noncomputable def cx12_2 : Cx := ⟨Tryd.prog, [e10, e19, e20, e21, e22, e23, e24, e26], [], 138, [(24, ce12_0), (52, ce12_1)], []⟩
noncomputable def B12_2 : sh12_2.D → Option (sh12_2.D ⊕ OutsD os12_2) := round cx12_2 (sub [1, 1, 1, 1, 1, 1, 1, 1, 1, 1, 1, 0, 1, 0, 0] b12) sh12_2 os12_2
noncomputable def ce12_2 : CE := ⟨sh12_2, os12_2, loop B12_2⟩
theorem okc12_2 : CEOK Tryd.prog 138 (.loop (sub [1, 1, 1, 1, 1, 1, 1, 1, 1, 1, 1, 0, 1, 0, 0] b12)) ce12_2 := round_ok (cx := cx12_2) (fun R => step_sound (all_fe (P := Tryd.prog) (l := [e10, e19, e20, e21, e22, e23, e24, e26]) ⟨ok10, ok19, ok20, ok21, ok22, ok23, ok24, ok26, trivial⟩) R) (needs_of (l := [((.loop (sub [1, 1, 1, 1, 1, 1, 1, 1, 1, 1, 1, 0, 1, 0, 0, 1, 0, 0, 1, 1, 1, 1, 0, 0] b12)), ce12_1)]) (by kernel_rfl) ⟨okc12_1, trivial⟩) sh12_2 os12_2
noncomputable def cx12 : Cx := ⟨Tryd.prog, [e10, e19, e20, e21, e22, e23, e24, e26], [], 138, [(24, ce12_0), (52, ce12_1), (38, ce12_2)], []⟩
noncomputable def F12 : sh12.D → Option out12.D := func cx12 Tryd.f12 b12 sh12 out12
noncomputable def e12 : FE := ⟨12, sh12, out12, F12⟩
theorem ok12 : FEOK Tryd.prog e12 := func_ok (cx := cx12) (fn := Tryd.f12) (c := b12) (all_fe (P := Tryd.prog) (l := [e10, e19, e20, e21, e22, e23, e24, e26]) ⟨ok10, ok19, ok20, ok21, ok22, ok23, ok24, ok26, trivial⟩) (by kernel_rfl) (by kernel_rfl) (by kernel_rfl) (by kernel_rfl) (by kernel_rfl) (needs_of (l := [((.loop (sub [1, 1, 1, 1, 1, 1, 1, 1, 1, 1, 0, 1, 0, 0] b12)), ce12_0), ((.loop (sub [1, 1, 1, 1, 1, 1, 1, 1, 1, 1, 1, 0, 1, 0, 0] b12)), ce12_2)]) (by kernel_rfl) ⟨okc12_0, okc12_2, trivial⟩)
@[reducible] def sh4 : Shape := ⟨[(0, .one (.d (.int .i64))), (1, .one (.d (.list (.int .i64)))), (2, .one (.d (.int .i64))), (3, .one (.d .str))], []⟩
@[reducible] def out4 : Shape := ⟨[(0, .one (.d .bool))], []⟩
noncomputable def b4 : Code := Tryd.f4.body.getD .skip
noncomputable def cx4 : Cx := ⟨Tryd.prog, [e5, e6, e7, e8, e9, e12], [], 144, [], []⟩
noncomputable def F4 : sh4.D → Option out4.D := func cx4 Tryd.f4 b4 sh4 out4
noncomputable def e4 : FE := ⟨4, sh4, out4, F4⟩
theorem ok4 : FEOK Tryd.prog e4 := func_ok (cx := cx4) (fn := Tryd.f4) (c := b4) (all_fe (P := Tryd.prog) (l := [e5, e6, e7, e8, e9, e12]) ⟨ok5, ok6, ok7, ok8, ok9, ok12, trivial⟩) (by kernel_rfl) (by kernel_rfl) (by kernel_rfl) (by kernel_rfl) (by kernel_rfl) (needs_of (l := []) (by kernel_rfl) trivial)
end Go.Vx.Z
/-! A module's swap, its release, its versions; what is excluded: as the program finds them. -/
namespace Go.Vx
open Go
set_option linter.unusedVariables false
theorem loop_first {P E α : Type} {B : P → Option (P ⊕ E)} (xs : List α) (st : Nat → P) (p : α → Bool) (hit : Nat → α → E) (miss : E)
    (hs : ∀ i (h : i < xs.length), B (st i) = some (bif p xs[i] then .inr (hit i xs[i]) else .inl (st (i + 1)))) (he : B (st xs.length) = some (.inr miss)) :
    ∃ e, loop B (st 0) = some e ∧ ((xs.find? p = none ∧ e = miss) ∨ ∃ i x, xs.find? p = some x ∧ e = hit i x) := by
  have key : ∀ (n i : Nat), xs.length - i = n → i ≤ xs.length → ∃ e, loop B (st i) = some e ∧ (((xs.drop i).find? p = none ∧ e = miss) ∨ ∃ j x, (xs.drop i).find? p = some x ∧ e = hit j x) := by
    intro n
    induction n with
    | zero =>
      intro i h1 h2
      have : i = xs.length := by omega
      subst this
      exact ⟨miss, loop_end he, .inl ⟨by simp, rfl⟩⟩
    | succ n ih =>
      intro i h1 h2
      have hlt : i < xs.length := by omega
      have hb := hs i hlt
      rw [List.drop_eq_getElem_cons hlt, List.find?_cons]
      cases hp : p xs[i] with
      | true =>
        rw [hp] at hb
        exact ⟨_, loop_end hb, .inr ⟨i, xs[i], rfl, rfl⟩⟩
      | false =>
        rw [hp] at hb
        obtain ⟨e, h3, h4⟩ := ih (i + 1) (by omega) hlt
        exact ⟨e, loop_step hb h3, h4⟩
  have := key xs.length 0 (by omega) (by omega)
  simpa using this
theorem loop_find {P E α : Type} {B : P → Option (P ⊕ E)} (xs : List α) (st : Nat → P) (p : α → Bool) (hit : α → E) (miss : E)
    (hs : ∀ i (h : i < xs.length), B (st i) = some (bif p xs[i] then .inr (hit xs[i]) else .inl (st (i + 1)))) (he : B (st xs.length) = some (.inr miss)) :
    loop B (st 0) = some ((xs.find? p).elim miss hit) := by
  obtain ⟨e, h1, h2⟩ := loop_first xs st p (fun _ => hit) miss hs he
  rw [h1]
  rcases h2 with ⟨h3, h4⟩ | ⟨i, x, h3, h4⟩ <;> rw [h3, h4] <;> rfl
/-- A loop that gathers. -/
theorem loop_fold {P E α β : Type} {B : P → Option (P ⊕ E)} (xs : List α) (st : Nat → β → P) (f : β → α → β) (en : β → E) (b0 : β) (I : Nat → β → Prop) (h0 : I 0 b0)
    (hs : ∀ i (h : i < xs.length) b, I i b → B (st i b) = some (.inl (st (i + 1) (f b xs[i]))) ∧ I (i + 1) (f b xs[i])) (he : ∀ b, I xs.length b → B (st xs.length b) = some (.inr (en b))) :
    loop B (st 0 b0) = some (en (xs.foldl f b0)) := by
  have key : ∀ (n i : Nat) b, xs.length - i = n → i ≤ xs.length → I i b → loop B (st i b) = some (en ((xs.drop i).foldl f b)) := by
    intro n
    induction n with
    | zero =>
      intro i b h1 h2 hI
      have : i = xs.length := by omega
      subst this
      rw [List.drop_length]
      exact loop_end (he b hI)
    | succ n ih =>
      intro i b h1 h2 hI
      have hlt : i < xs.length := by omega
      obtain ⟨hb, hI'⟩ := hs i hlt b hI
      rw [List.drop_eq_getElem_cons hlt, List.foldl_cons]
      exact loop_step hb (ih (i + 1) _ (by omega) hlt hI')
  have := key xs.length 0 b0 (by omega) (by omega) h0
  simpa using this
theorem lt_in {i n : Nat} (h : i < n) : decide ((i : Int) < Int.ofNat n) = true := by simp; omega
theorem lt_out (n : Nat) : decide ((n : Int) < Int.ofNat n) = false := by simp
theorem ge_zero (i : Nat) : decide (Int.ofNat 0 ≤ (i : Int)) = true := by simp
theorem at_in {α : Type} {xs : List α} {i : Nat} (h : i < xs.length) : xs[Int.toNat (i : Int)]? = some xs[i] := by simp [h]
theorem wrap_next {i n : Nat} (h : i < n) (hn : n ≤ 9223372036854775807) : IntKind.wrap IntKind.i64 ((i : Int) + Int.ofNat 1) = ((i + 1 : Nat) : Int) := wrap64s i (by omega)
theorem beq_bs (a b : ByteArray) : (a.toList == b.toList) = (bs a == bs b) := by rw [bs_toList, bs_toList]
theorem bs_eq {a b : ByteArray} : (bs a == bs b) = true ↔ a = b := ⟨fun h => bs_inj (by simpa using h), fun h => by rw [h]; simp⟩
abbrev Swp := ByteArray × ByteArray × Ver
abbrev Rel := Int × Int × Int × ByteArray × List Req × ByteArray × ByteArray × Unit
abbrev Mod := ByteArray × List Rel × Unit
abbrev Rev := ByteArray × ByteArray × Bool × Bool × Int × Int × Int × ByteArray × Int × Unit
abbrev Blt := ByteArray × Int × Int × Int × ByteArray × ByteArray × Ver
def Rel.v (r : Rel) : Ver := (r.1, r.2.1, r.2.2.1, r.2.2.2.1, ())
def Rel.reqs (r : Rel) : List Req := r.2.2.2.2.1
def eqV (a b : Ver) : Bool := a.1 == b.1 && (a.2.1 == b.2.1 && (a.2.2.1 == b.2.2.1 && bs a.2.2.2.1 == bs b.2.2.2.1))
theorem eqV_iff {a b : Ver} : eqV a b = true ↔ a = b := by
  obtain ⟨a1, a2, a3, a4, u⟩ := a
  obtain ⟨b1, b2, b3, b4, u'⟩ := b
  simp only [eqV, Bool.and_eq_true, beq_iff_eq, Prod.mk.injEq, and_true]
  constructor
  · rintro ⟨h1, h2, h3, h4⟩; exact ⟨h1, h2, h3, bs_inj h4⟩
  · rintro ⟨h1, h2, h3, h4⟩; exact ⟨h1, h2, h3, by rw [h4]⟩
def eqR (a b : Req) : Bool := bs a.1 == bs b.1 && eqV a.2 b.2
theorem eqR_iff {a b : Req} : eqR a b = true ↔ a = b := by
  simp only [eqR, Bool.and_eq_true, bs_eq, eqV_iff]
  constructor
  · rintro ⟨h1, h2⟩; exact Prod.ext h1 h2
  · rintro rfl; exact ⟨rfl, rfl⟩
def swapOf (l : List Swp) (p : ByteArray) : Option Swp := l.find? fun y => bs y.1 == bs p
def modOf (w : List Mod) (p : ByteArray) : Option Mod := w.find? fun y => bs y.1 == bs p
def relsOf (w : List Mod) (p : ByteArray) : List Rel := (modOf w p).elim [] fun m => m.2.1
def relOf (w : List Mod) (p : ByteArray) (v : Ver) : Option Rel := (relsOf w p).find? fun y => eqV y.v v
def versOf (w : List Mod) (p : ByteArray) : List Ver := (relsOf w p).map Rel.v
def exclOf (l : List Req) (r : Req) : Bool := l.any (eqR r)
abbrev big : Nat := 1099511627776
end Go.Vx
namespace Go.Vx.Z
open Go Go.Vx
set_option linter.unusedVariables false
theorem F28_is (x0 : ByteArray) (x1 x2 : List Req) (sw : List Swp) (x4 : List Mod) (x5 : List Rev) (p : ByteArray) (h : sw.length ≤ big) :
    F28 (x0, x1, x2, sw, x4, x5, p, ()) = some ((swapOf sw p).elim (lit [], lit [], 0, 0, 0, lit [], false, ()) fun y => (y.1, y.2.1, y.2.2.1, y.2.2.2.1, y.2.2.2.2.1, y.2.2.2.2.2.1, true, ())) := by
  rw [F28_eq]
  rw [show (Int.ofNat 0 : Int) = ((0 : Nat) : Int) from rfl, loop_find (B := B28_0) sw (fun i => (p, sw, Int.ofNat sw.length, (i : Int), lit [], lit [], ((0 : Nat) : Int), ((0 : Nat) : Int), ((0 : Nat) : Int), lit [], ())) (fun y => bs y.1 == bs p)
    (fun y => .inl (true, y.1, y.2.1, y.2.2.1, y.2.2.2.1, y.2.2.2.2.1, y.2.2.2.2.2.1, ())) (.inr (lit [], lit [], ((0 : Nat) : Int), ((0 : Nat) : Int), ((0 : Nat) : Int), lit [], ())) ?_ ?_]
  · unfold swapOf
    cases sw.find? fun y => bs y.1 == bs p <;> rfl
  · intro i hi
    rw [B28_0_eq, lt_in hi, ge_zero, at_in hi, wrap_next hi (by simp only [big] at h; omega)]
    simp only [cond_true, Option.bind_some, beq_bs]
    cases bs sw[i].1 == bs p <;> rfl
  · rw [B28_0_eq, lt_out]; rfl
theorem F26_is (l : List Req) (h : l.length ≤ big) : F26 (l, ()) = some (l, ()) := by
  rw [F26_eq]
  have : decide (0 + l.length ≤ 2513169434916) = true := by simp only [decide_eq_true_eq]; simp only [big] at h; omega
  rw [this]
  cases l with
  | nil => simp [both]
  | cons => rfl
theorem F34_is (l : List Blt) (h : l.length ≤ big) : F34 (l, ()) = some (l, ()) := by
  rw [F34_eq]
  have : decide (0 + l.length ≤ 1256584717458) = true := by simp only [decide_eq_true_eq]; simp only [big] at h; omega
  rw [this]
  cases l with
  | nil => simp [both]
  | cons => rfl
theorem F67_is (w : List Mod) (rv : List Rev) (p : ByteArray) (h : w.length ≤ big) : F67 (w, rv, p, ()) = some ((modOf w p).elim (lit [], [], false, ()) fun m => (m.1, m.2.1, true, ())) := by
  rw [F67_eq]
  rw [show (Int.ofNat 0 : Int) = ((0 : Nat) : Int) from rfl, loop_find (B := B67_0) w (fun i => (p, w, Int.ofNat w.length, (i : Int), lit [], ())) (fun y => bs y.1 == bs p) (fun y => .inl (true, y.1, y.2.1, ())) (.inr (lit [], ())) ?_ ?_]
  · unfold modOf
    cases w.find? fun y => bs y.1 == bs p <;> rfl
  · intro i hi
    rw [B67_0_eq, lt_in hi, ge_zero, at_in hi, wrap_next hi (by simp only [big] at h; omega)]
    simp only [cond_true, Option.bind_some, beq_bs]
    cases bs w[i].1 == bs p <;> rfl
  · rw [B67_0_eq, lt_out]; rfl
/-- Lists of a world are short. -/
def okW (w : List Mod) : Prop := w.length ≤ big ∧ ∀ m ∈ w, m.2.1.length ≤ big ∧ ∀ r ∈ m.2.1, r.reqs.length ≤ big
theorem modOf_mem {w : List Mod} {p : ByteArray} {m : Mod} (h : modOf w p = some m) : m ∈ w := List.mem_of_find?_eq_some h
theorem relsOf_len {w : List Mod} {p : ByteArray} (h : okW w) : (relsOf w p).length ≤ big ∧ ∀ r ∈ relsOf w p, r.reqs.length ≤ big := by
  unfold relsOf
  cases hm : modOf w p with
  | none => simp
  | some m => exact h.2 m (modOf_mem hm)
theorem F42_is (w : List Mod) (rv : List Rev) (p : ByteArray) (v : Ver) (h : okW w) : F42 (w, rv, p, v.1, v.2.1, v.2.2.1, v.2.2.2.1, ()) =
    some ((relOf w p v).elim (0, 0, 0, lit [], [], lit [], lit [], false, ()) fun y => (y.1, y.2.1, y.2.2.1, y.2.2.2.1, y.2.2.2.2.1, y.2.2.2.2.2.1, y.2.2.2.2.2.2.1, true, ())) := by
  rw [F42_eq, F67_is w rv p h.1]
  have hl := (relsOf_len (p := p) h).1
  have hr : ∀ e : ByteArray × List Rel × Bool × Unit, e = (modOf w p).elim (lit [], [], false, ()) (fun m => (m.1, m.2.1, true, ())) → e.2.1 = relsOf w p := by
    intro e he
    subst he
    unfold relsOf
    cases modOf w p <;> rfl
  generalize hee : (modOf w p).elim (lit [], [], false, ()) (fun m => (m.1, m.2.1, true, ())) = e
  rw [Option.bind_some, hr e hee.symm]
  rw [show (Int.ofNat 0 : Int) = ((0 : Nat) : Int) from rfl, loop_find (B := B42_0) (relsOf w p) (fun i => (relsOf w p, Int.ofNat (relsOf w p).length, (i : Int), v.1, v.2.1, v.2.2.1, v.2.2.2.1, ((0 : Nat) : Int), ((0 : Nat) : Int), ((0 : Nat) : Int), lit [], lit [], lit [], ()))
    (fun y => eqV y.v v) (fun y => .inl (true, y.1, y.2.1, y.2.2.1, y.2.2.2.1, y.2.2.2.2.1, y.2.2.2.2.2.1, y.2.2.2.2.2.2.1, ())) (.inr (((0 : Nat) : Int), ((0 : Nat) : Int), ((0 : Nat) : Int), lit [], lit [], lit [], ())) ?_ ?_]
  · unfold relOf
    cases (relsOf w p).find? fun y => eqV y.v v <;> rfl
  · intro i hi
    rw [B42_0_eq, lt_in hi, ge_zero, at_in hi, wrap_next hi (by simp only [big] at hl; omega)]
    simp only [cond_true, Option.bind_some, beq_bs]
    show (bif eqV (relsOf w p)[i].v v then some _ else some _) = _
    cases eqV (relsOf w p)[i].v v <;> rfl
  · rw [B42_0_eq, lt_out]; rfl
theorem F29_is (w : List Mod) (rv : List Rev) (p : ByteArray) (v : Ver) (h : okW w) : F29 (w, rv, p, v.1, v.2.1, v.2.2.1, v.2.2.2.1, ()) =
    some ((relOf w p v).elim (0, 0, 0, lit [], [], lit [], lit [], false, ()) fun y => (y.1, y.2.1, y.2.2.1, y.2.2.2.1, y.2.2.2.2.1, y.2.2.2.2.2.1, y.2.2.2.2.2.2.1, true, ())) := by
  rw [F29_eq, F42_is w rv p v h, Option.bind_some]
  cases hr : relOf w p v with
  | none => simp only [Option.elim_none]; rw [F26_is [] (by simp [big])]; rfl
  | some y =>
    have : y ∈ relsOf w p := List.mem_of_find?_eq_some hr
    simp only [Option.elim_some]
    rw [F26_is y.2.2.2.2.1 ((relsOf_len h).2 y this)]
    rfl
theorem F69_is (l : List Req) (r : Req) (h : l.length ≤ big) : F69 (l, r.1, r.2.1, r.2.2.1, r.2.2.2.1, r.2.2.2.2.1, ()) = some (exclOf l r, ()) := by
  rw [F69_eq, F84_eq]
  rw [show (Int.ofNat 0 : Int) = ((0 : Nat) : Int) from rfl]
  obtain ⟨e, h1, h2⟩ := loop_first (B := B84_0) l (fun i => (l, Int.ofNat l.length, (i : Int), r.1, r.2.1, r.2.2.1, r.2.2.2.1, r.2.2.2.2.1, ())) (eqR r) (fun i _ => .inl ((i : Int), ())) (.inr ()) (by
    intro i hi
    rw [B84_0_eq, lt_in hi, ge_zero, at_in hi, wrap_next hi (by simp only [big] at h; omega)]
    simp only [cond_true, Option.bind_some, beq_bs]
    show (bif eqR r l[i] then some _ else some _) = _
    cases eqR r l[i] <;> rfl) (by rw [B84_0_eq, lt_out]; rfl)
  rw [h1]
  rcases h2 with ⟨h3, rfl⟩ | ⟨i, x, h3, rfl⟩
  · have : exclOf l r = false := by
      unfold exclOf
      rw [List.any_eq_false]
      intro x hx
      simpa using List.find?_eq_none.1 h3 x hx
    rw [this]; rfl
  · have : exclOf l r = true := by
      unfold exclOf
      rw [List.any_eq_true]
      exact ⟨x, List.mem_of_find?_eq_some h3, List.find?_some h3⟩
    rw [this]
    show some (decide ((i : Int) ≥ Int.ofNat 0), ()) = _
    simp
theorem F45_is (x0 : ByteArray) (x1 ex : List Req) (x3 : List Swp) (x4 : List Mod) (x5 : List Rev) (r : Req) (h : ex.length ≤ big) : F45 (x0, x1, ex, x3, x4, x5, r.1, r.2.1, r.2.2.1, r.2.2.2.1, r.2.2.2.2.1, ()) = some (exclOf ex r, ()) := by
  rw [F45_eq, F69_is ex r h]; rfl
theorem F47_is (w : List Mod) (rv : List Rev) (p : ByteArray) (h : okW w) : F47 (w, rv, p, ()) = some (versOf w p, ()) := by
  rw [F47_eq, F67_is w rv p h.1]
  have hl := (relsOf_len (p := p) h).1
  have hr : ∀ e : ByteArray × List Rel × Bool × Unit, e = (modOf w p).elim (lit [], [], false, ()) (fun m => (m.1, m.2.1, true, ())) → e.2.1 = relsOf w p := by
    intro e he
    subst he
    unfold relsOf
    cases modOf w p <;> rfl
  generalize hee : (modOf w p).elim (lit [], [], false, ()) (fun m => (m.1, m.2.1, true, ())) = e
  rw [Option.bind_some, hr e hee.symm]
  simp only [big] at hl
  have e1 : (decide (Int.ofNat 0 ≤ Int.ofNat (relsOf w p).length) && decide (Int.ofNat 40 * Int.ofNat (relsOf w p).length ≤ Int.ofNat 281474976710656) && decide (Int.ofNat (relsOf w p).length ≤ Int.ofNat 9223372036854775807)) = true := by
    simp only [Bool.and_eq_true, decide_eq_true_eq, Int.ofNat_eq_natCast]
    omega
  rw [e1, cond_true]
  rw [show (Int.ofNat 0 : Int) = ((0 : Nat) : Int) from rfl, loop_fold (B := B47_0) (relsOf w p) (fun i b => (relsOf w p, Int.ofNat (relsOf w p).length, (i : Int), b, ())) (fun b y => b ++ [y.v]) (fun b => (b, ())) [] (fun i b => b.length = i) rfl ?_ ?_]
  · have : ∀ (l : List Rel) (b : List Ver), l.foldl (fun b y => b ++ [y.v]) b = b ++ l.map Rel.v := by
      intro l
      induction l with
      | nil => simp
      | cons x l ih => intro b; rw [List.foldl_cons, ih]; simp
    rw [this]
    rfl
  · intro i hi b hb
    refine ⟨?_, by simp [hb]⟩
    rw [B47_0_eq, lt_in hi, ge_zero, at_in hi, wrap_next hi (by omega)]
    simp only [cond_true, Option.bind_some]
    have e2 : ∀ q : Ver, decide (b.length + [q].length ≤ 3518437208883) = true := by intro q; simp; omega
    rw [e2]
    rfl
  · intro b hb
    rw [B47_0_eq, lt_out]; rfl
end Go.Vx.Z
/-! What is asked for, as the program takes it. -/
namespace Go.Vx
open Go
set_option linter.unusedVariables false
theorem loop_upto {P E β : Type} {B : P → Option (P ⊕ E)} (n : Nat) (st : Nat → β → P) (en : β → E) (I : Nat → β → Prop)
    (hs : ∀ i, i < n → ∀ b, I i b → ∃ b', B (st i b) = some (.inl (st (i + 1) b')) ∧ I (i + 1) b') (he : ∀ b, I n b → B (st n b) = some (.inr (en b))) : ∀ k b, k ≤ n → I k b → ∃ b', loop B (st k b) = some (en b') ∧ I n b' := by
  have key : ∀ (d k : Nat) b, n - k = d → k ≤ n → I k b → ∃ b', loop B (st k b) = some (en b') ∧ I n b' := by
    intro d
    induction d with
    | zero =>
      intro k b h1 h2 hI
      have : k = n := by omega
      subst this
      exact ⟨b, loop_end (he b hI), hI⟩
    | succ d ih =>
      intro k b h1 h2 hI
      obtain ⟨b', h3, h4⟩ := hs k (by omega) b hI
      obtain ⟨b'', h5, h6⟩ := ih (k + 1) b' (by omega) (by omega) h4
      exact ⟨b'', loop_step h3 h5, h6⟩
  intro k b hk hI
  exact key (n - k) k b rfl hk hI
theorem lt_both {i n : Nat} (h : i < n) : (decide (Int.ofNat 0 ≤ (i : Int)) && decide ((i : Int) < Int.ofNat n)) = true := by rw [ge_zero, lt_in h]; rfl
def delP (ex : List Req) (r : Req) (v : Ver) : Bool := decide (cmpV v r.2 ≥ 0) || exclOf ex (r.1, v)
/-- The versions that are left below. -/
def belowOf (w : List Mod) (ex : List Req) (r : Req) : List Ver := (versOf w r.1).filter fun v => !delP ex r v
/-- The greatest of some versions. -/
def maxV : List Ver → Ver
  | [] => (0, 0, 0, lit [], ())
  | v :: l => l.foldl (fun m x => if cmpV x m > 0 then x else m) v
/-- What is asked for, as it is taken: an error; left out; a pair. -/
def saidOf (md : ByteArray) (ex : List Req) (sw : List Swp) (w : List Mod) (r : Req) : Int × Option Req :=
  if (swapOf sw r.1).isSome then (0, some r)
  else if r.1 = md then (0, none)
  else if exclOf ex r = true then (if belowOf w ex r = [] then (13, none) else (0, some (r.1, maxV (belowOf w ex r))))
  else if (relOf w r.1 r.2).isSome then (0, some r) else (9, none)
/-- As it is taken, all, in order; the first error. -/
def allOf (md : ByteArray) (ex : List Req) (sw : List Swp) (w : List Mod) : List Req → Int × List Req
  | [] => (0, [])
  | r :: l => if (saidOf md ex sw w r).1 = 0 then
      (if (allOf md ex sw w l).1 = 0 then (0, (saidOf md ex sw w r).2.toList ++ (allOf md ex sw w l).2) else ((allOf md ex sw w l).1, []))
    else ((saidOf md ex sw w r).1, [])
end Go.Vx
namespace Go.Vx.Z
open Go Go.Vx
set_option linter.unusedVariables false
set_option maxRecDepth 100000
/-- A world, a manifest of which all is of a right size. -/
structure okS (ex : List Req) (sw : List Swp) (w : List Mod) : Prop where
  hex : ex.length ≤ big
  hsw : sw.length ≤ big
  hw : okW w
  vers : ∀ m ∈ w, ∀ y ∈ m.2.1, okV y.v = true
  reqs : ∀ m ∈ w, ∀ y ∈ m.2.1, ∀ q ∈ y.reqs, okR q = true
theorem versOf_ok {w : List Mod} {p : ByteArray} (h : okW w) (hv : ∀ m ∈ w, ∀ y ∈ m.2.1, okV y.v = true) : (versOf w p).length ≤ big ∧ ∀ v ∈ versOf w p, okV v = true := by
  refine ⟨by rw [versOf, List.length_map]; exact (relsOf_len h).1, fun v hv' => ?_⟩
  unfold versOf relsOf at hv'
  cases hm : modOf w p with
  | none => rw [hm] at hv'; simp at hv'
  | some m =>
    rw [hm] at hv'
    obtain ⟨y, h1, rfl⟩ := List.mem_map.1 hv'
    exact hv m (modOf_mem hm) y h1
section
variable (md : ByteArray) (rq ex : List Req) (sw : List Swp) (w : List Mod) (rv : List Rev) (r : Req)
theorem F48_is (v : Ver) (hv : okV v = true) (hr : okV r.2 = true) (h : ex.length ≤ big) : F48 (v.1, v.2.1, v.2.2.1, v.2.2.2.1, r.1, r.2.1, r.2.2.1, r.2.2.2.1, r.2.2.2.2.1, md, rq, ex, sw, w, rv, ()) =
    some (delP ex r v, r.1, r.2.1, r.2.2.1, r.2.2.2.1, r.2.2.2.2.1, md, rq, ex, sw, w, rv, ()) := by
  rw [F48_eq, F39_is v r.2 hv hr, Option.bind_some]
  unfold delP
  cases hc : decide (cmpV v r.2 ≥ 0) with
  | true => rfl
  | false =>
    rw [cond_false]
    have := F45_is md rq ex sw w rv (r.1, v) h
    rw [this]
    rfl
theorem F70_is (l : List Ver) (hl : ∀ v ∈ l, okV v = true) (hr : okV r.2 = true) (h : ex.length ≤ big) (hn : l.length ≤ big) :
    ∃ e : Int, F70 (l, r.1, r.2.1, r.2.2.1, r.2.2.2.1, r.2.2.2.2.1, md, rq, ex, sw, w, rv, ()) = some (e, l, r.1, r.2.1, r.2.2.1, r.2.2.2.1, r.2.2.2.2.1, md, rq, ex, sw, w, rv, ()) ∧
      ((e = -1 ∧ l.filter (fun v => !delP ex r v) = l) ∨ ∃ i : Nat, e = i ∧ i < l.length ∧ (l.take (i + 1)).filter (fun v => !delP ex r v) = l.take i) := by
  rw [F70_eq]
  obtain ⟨e, h1, h2⟩ := loop_inv (B := B70_0) (fun p => ∃ i : Nat, i ≤ l.length ∧ (l.take i).filter (fun v => !delP ex r v) = l.take i ∧ p = (Int.ofNat l.length, (i : Int), l, r.1, r.2.1, r.2.2.1, r.2.2.2.1, r.2.2.2.2.1, md, rq, ex, sw, w, rv, ())) (fun p => (Int.ofNat l.length - p.2.1).toNat)
    (fun e => (e = .inr (l, r.1, r.2.1, r.2.2.1, r.2.2.2.1, r.2.2.2.2.1, md, rq, ex, sw, w, rv, ()) ∧ l.filter (fun v => !delP ex r v) = l) ∨
      ∃ i : Nat, i < l.length ∧ (l.take (i + 1)).filter (fun v => !delP ex r v) = l.take i ∧ e = .inl ((i : Int), l, r.1, r.2.1, r.2.2.1, r.2.2.2.1, r.2.2.2.2.1, md, rq, ex, sw, w, rv, ())) (by
      rintro p ⟨i, hi, ha, rfl⟩
      rw [B70_0_eq]
      by_cases hlt : i < l.length
      · rw [lt_in hlt, ge_zero, at_in hlt, wrap_next hlt (by simp only [big] at hn; omega)]
        simp only [Bool.and_self, cond_true, Option.bind_some]
        rw [F48_is md rq ex sw w rv r l[i] (hl _ (List.getElem_mem hlt)) hr h, Option.bind_some]
        have htk : l.take (i + 1) = l.take i ++ [l[i]] := by rw [List.take_succ_eq_append_getElem hlt]
        cases hd : delP ex r l[i] with
        | true =>
          refine .inr ⟨_, rfl, .inr ⟨i, hlt, ?_, rfl⟩⟩
          rw [htk, List.filter_append, ha]
          simp [hd]
        | false =>
          refine .inl ⟨_, rfl, ⟨i + 1, hlt, ?_, rfl⟩, ?_⟩
          · rw [htk, List.filter_append, ha]
            simp [hd]
          · simp; omega
      · have : i = l.length := by omega
        subst this
        rw [lt_out]
        refine .inr ⟨_, rfl, .inl ⟨rfl, ?_⟩⟩
        simpa using ha) (Int.ofNat l.length, Int.ofNat 0, l, r.1, r.2.1, r.2.2.1, r.2.2.2.1, r.2.2.2.2.1, md, rq, ex, sw, w, rv, ()) ⟨0, by omega, by simp, rfl⟩
  rw [h1, Option.bind_some]
  rcases h2 with ⟨rfl, h3⟩ | ⟨i, hi, h3, rfl⟩
  · exact ⟨-1, rfl, .inl ⟨rfl, h3⟩⟩
  · exact ⟨i, rfl, .inr ⟨i, rfl, hi, h3⟩⟩
theorem F46_is (l : List Ver) (hl : ∀ v ∈ l, okV v = true) (hr : okV r.2 = true) (h : ex.length ≤ big) (hn : l.length ≤ big) :
    ∃ l', F46 (l, r.1, r.2.1, r.2.2.1, r.2.2.2.1, r.2.2.2.2.1, md, rq, ex, sw, w, rv, ()) = some (l.filter (fun v => !delP ex r v), l', r.1, r.2.1, r.2.2.1, r.2.2.2.1, r.2.2.2.2.1, md, rq, ex, sw, w, rv, ()) := by
  rw [F46_eq]
  obtain ⟨e, h1, h2⟩ := F70_is md rq ex sw w rv r l hl hr h hn
  rw [h1, Option.bind_some]
  rcases h2 with ⟨rfl, h3⟩ | ⟨i, rfl, hi, h3⟩
  · rw [show ((-1 : Int) == Int.negSucc 0) = true from rfl, cond_true]
    exact ⟨l, by rw [h3]⟩
  · have hne : ((i : Int) == Int.negSucc 0) = false := by simp
    simp only [hne, cond_false]
    rw [wrap_next hi (by simp only [big] at hn; omega)]
    obtain ⟨⟨i', l'⟩, h4, h5⟩ := loop_upto (B := B46_0) l.length (fun j (b : Nat × List Ver) => ((b.1 : Int), (j : Int), b.2, r.1, r.2.1, r.2.2.1, r.2.2.2.1, r.2.2.2.2.1, md, rq, ex, sw, w, rv, ()))
      (fun b => ((b.1 : Int), b.2, r.1, r.2.1, r.2.2.1, r.2.2.2.1, r.2.2.2.2.1, md, rq, ex, sw, w, rv, ()))
      (fun j b => b.1 < j ∧ b.2.length = l.length ∧ b.2.drop j = l.drop j ∧ b.2.take b.1 = (l.take j).filter (fun v => !delP ex r v)) (by
        rintro j hj ⟨i0, b⟩ ⟨q1, q2, q3, q4⟩
        simp only at q1 q2 q3 q4 ⊢
        have hjb : j < b.length := by omega
        have hbj : b[j] = l[j] := by
          have e1 := List.drop_eq_getElem_cons hjb
          have e2 := List.drop_eq_getElem_cons hj
          rw [q3, e2] at e1
          injection e1 with e1 _
          exact e1.symm
        have hdrop : b.drop (j + 1) = l.drop (j + 1) := by
          have := congrArg (List.drop 1) q3
          simpa [List.drop_drop] using this
        have htk : l.take (j + 1) = l.take j ++ [l[j]] := by rw [List.take_succ_eq_append_getElem hj]
        have hat : b[Int.toNat (j : Int)]? = some l[j] := by rw [at_in hjb, hbj]
        rw [B46_0_eq, lt_in hjb, ge_zero, hat, wrap_next hjb (by simp only [big] at hn; omega)]
        simp only [Bool.and_self, cond_true, Option.bind_some]
        rw [F48_is md rq ex sw w rv r l[j] (hl _ (List.getElem_mem hj)) hr h, Option.bind_some]
        cases hd : delP ex r l[j] with
        | true =>
          refine ⟨(i0, b), rfl, by simp only; omega, q2, hdrop, ?_⟩
          rw [htk, List.filter_append, q4]
          simp [hd]
        | false =>
          have hi0 : i0 < b.length := by omega
          simp only [Bool.not_false, cond_true]
          rw [lt_both hi0, at_in hi0, wrap_next hi0 (by simp only [big] at hn; omega)]
          refine ⟨(i0 + 1, b.set i0 l[j]), rfl, by simp only; omega, by simp [q2], ?_, ?_⟩
          · simp only
            rw [List.drop_set_of_lt (by omega)]
            exact hdrop
          · simp only
            rw [htk, List.filter_append, ← q4]
            have : (b.set i0 l[j]).take (i0 + 1) = b.take i0 ++ [l[j]] := by
              rw [List.take_succ_eq_append_getElem (by simpa using hi0)]
              rw [List.take_set_of_le (Nat.le_refl _)]
              simp
            rw [this]
            simp [hd]) (by
        rintro ⟨i0, b⟩ ⟨q1, q2, q3, q4⟩
        simp only at q2 ⊢
        rw [B46_0_eq, q2, lt_out]
        rfl) (i + 1) (i, l) hi ⟨by simp only; omega, rfl, rfl, by simp only; rw [h3]⟩
    rw [h4, Option.bind_some]
    obtain ⟨q1, q2, q3, q4⟩ := h5
    simp only at q1 q2 q3 q4 ⊢
    have hle : i' ≤ l'.length := by omega
    have e1 : (decide (Int.ofNat 0 ≤ (i' : Int)) && (decide ((i' : Int) ≤ Int.ofNat l'.length) && (decide (Int.ofNat l'.length ≤ Int.ofNat l'.length) && decide (Int.ofNat l'.length ≤ Int.ofNat l'.length)))) = true := by
      simp; exact hle
    rw [e1, cond_true]
    have e2 : ∀ (z : Ver), (l'.take (0 + Int.toNat (i' : Int)) ++ List.replicate (0 + Int.toNat (Int.ofNat l'.length) - (0 + Int.toNat (i' : Int))) z ++ l'.drop (0 + Int.toNat (i' : Int) + (0 + Int.toNat (Int.ofNat l'.length) - (0 + Int.toNat (i' : Int))))).length = l'.length := by
      intro z; simp; omega
    have e3 : (decide (Int.ofNat 0 ≤ (i' : Int)) && (decide ((i' : Int) ≤ Int.ofNat l'.length) && decide (Int.ofNat l'.length ≤ Int.ofNat l'.length))) = true := by
      simp; exact hle
    rw [e2, e3, cond_true]
    have hfl : ∀ (z : Ver), List.drop 0 (List.take (0 + Int.toNat (i' : Int)) (l'.take (0 + Int.toNat (i' : Int)) ++ List.replicate (0 + Int.toNat (Int.ofNat l'.length) - (0 + Int.toNat (i' : Int))) z ++ l'.drop (0 + Int.toNat (i' : Int) + (0 + Int.toNat (Int.ofNat l'.length) - (0 + Int.toNat (i' : Int)))))) = l.filter (fun v => !delP ex r v) := by
      intro z
      rw [List.take_length] at q4
      rw [← q4]
      simp [hle]
    rw [hfl]
    exact ⟨_, rfl⟩
theorem F71_is (v : Ver) (l : List Ver) (hl : ∀ x ∈ v :: l, okV x = true) (hn : l.length < big) : F71 (v :: l, ()) = some (maxV (v :: l)) := by
  rw [F71_eq]
  have e0 : decide (Int.ofNat (v :: l).length < Int.ofNat 1) = false := by simp; omega
  rw [e0, cond_false]
  show (Option.bind (loop B71_0 _) _) = _
  obtain ⟨m, h4, h5⟩ := loop_upto (B := B71_0) (v :: l).length (fun j (m : Ver) => (v :: l, (j : Int), Int.ofNat 0, Int.ofNat 0, Int.ofNat 0, lit [], m.1, m.2.1, m.2.2.1, m.2.2.2.1, ()))
    (fun m => (Int.ofNat 0, Int.ofNat 0, Int.ofNat 0, lit [], m.1, m.2.1, m.2.2.1, m.2.2.2.1, ())) (fun j m => 1 ≤ j ∧ okV m = true ∧ m = (l.take (j - 1)).foldl (fun m x => if cmpV x m > 0 then x else m) v) (by
      rintro j hj m ⟨q1, q2, q3⟩
      rw [B71_0_eq, lt_in hj, ge_zero, at_in hj, wrap_next hj (by simp only [big] at hn; simp; omega)]
      simp only [cond_true, Option.bind_some]
      have hok := hl _ (List.getElem_mem hj)
      rw [F39_is (v :: l)[j] m hok q2, Option.bind_some]
      have hj' : j - 1 < l.length := by simp at hj; omega
      have hgj : (v :: l)[j] = l[j - 1] := by
        rw [List.getElem_cons, dif_neg (by omega)]
      have htk : l.take (j + 1 - 1) = l.take (j - 1) ++ [l[j - 1]] := by rw [show j + 1 - 1 = j - 1 + 1 by omega, List.take_succ_eq_append_getElem hj']
      have hfo : (l.take (j + 1 - 1)).foldl (fun m x => if cmpV x m > 0 then x else m) v = if cmpV (v :: l)[j] m > 0 then (v :: l)[j] else m := by
        rw [htk, List.foldl_append, ← q3, hgj]; rfl
      by_cases hc : cmpV (v :: l)[j] m > 0
      · rw [show decide ((cmpV (v :: l)[j] m, ()).1 > Int.ofNat 0) = true from decide_eq_true hc]
        refine ⟨(v :: l)[j], rfl, by omega, hok, ?_⟩
        rw [hfo, if_pos hc]
      · rw [show decide ((cmpV (v :: l)[j] m, ()).1 > Int.ofNat 0) = false from decide_eq_false hc]
        refine ⟨m, rfl, by omega, q2, ?_⟩
        rw [hfo, if_neg hc]) (by
      rintro m ⟨q1, q2, q3⟩
      rw [B71_0_eq, lt_out]
      rfl) 1 v (by simp) ⟨Nat.le_refl _, hl _ (by simp), by simp⟩
  rw [show (Int.ofNat 1 : Int) = ((1 : Nat) : Int) from rfl, h4, Option.bind_some]
  obtain ⟨q1, q2, q3⟩ := h5
  show some m = _
  rw [q3]
  simp [maxV]
theorem F49_is (l : List Ver) (hl : ∀ x ∈ l, okV x = true) (hn : l.length ≤ big) : F49 (l, ()) = some (maxV l) := by
  rw [F49_eq]
  cases l with
  | nil => rfl
  | cons v l =>
    have e0 : (Int.ofNat (v :: l).length == Int.ofNat 0) = false := by simp; omega
    rw [e0, cond_false, F71_is v l hl (by simp at hn; omega)]
    rfl
theorem F35_is (hr : okV r.2 = true) (h : okS ex sw w) : F35 (md, rq, ex, sw, w, rv, r.1, r.2.1, r.2.2.1, r.2.2.2.1, r.2.2.2.2.1, ()) =
    some ((saidOf md ex sw w r).2.elim (lit [], 0, 0, 0, lit [], false, (saidOf md ex sw w r).1, ()) fun q => (q.1, q.2.1, q.2.2.1, q.2.2.2.1, q.2.2.2.2.1, true, 0, ())) := by
  rw [F35_eq, F28_is md rq ex sw w rv r.1 h.hsw]
  unfold saidOf
  cases hsw : swapOf sw r.1 with
  | some y => rfl
  | none =>
    rw [Option.bind_some]
    simp only [Option.elim_none, Option.isSome_none, Bool.false_eq_true, if_false, cond_false, beq_bs]
    by_cases hmd : r.1 = md
    · rw [if_pos hmd, show (bs r.1 == bs md) = true from bs_eq.2 hmd]
      rfl
    · rw [if_neg hmd, show (bs r.1 == bs md) = false from by rw [← Bool.not_eq_true]; exact fun e => hmd (bs_eq.1 e)]
      rw [cond_false, F45_is md rq ex sw w rv r h.hex, Option.bind_some]
      cases hex : exclOf ex r with
      | false =>
        simp only [Bool.not_false, cond_true, Bool.false_eq_true, if_false]
        rw [F29_is w rv r.1 r.2 h.hw]
        cases relOf w r.1 r.2 <;> rfl
      | true =>
        simp only [Bool.not_true, cond_false, if_true]
        obtain ⟨hvl, hvo⟩ := versOf_ok (p := r.1) h.hw h.vers
        rw [F47_is w rv r.1 h.hw, Option.bind_some]
        obtain ⟨l', h88⟩ := F46_is md rq ex sw w rv r (versOf w r.1) hvo hr h.hex hvl
        simp only
        rw [h88, Option.bind_some]
        show (bif Int.ofNat (belowOf w ex r).length == Int.ofNat 0 then _ else Option.bind (F49 (belowOf w ex r, ())) _) = _
        cases hb : belowOf w ex r with
        | nil => rfl
        | cons v l =>
          have e0 : (Int.ofNat (v :: l).length == Int.ofNat 0) = false := by simp; omega
          have hsub : ∀ x ∈ v :: l, x ∈ versOf w r.1 := fun x hx => by rw [← hb] at hx; exact (List.mem_filter.1 hx).1
          have hlen : (v :: l).length ≤ big := by rw [← hb]; exact Nat.le_trans (List.length_filter_le _ _) hvl
          rw [e0, cond_false, F49_is (v :: l) (fun x hx => hvo x (hsub x hx)) hlen, if_neg (by simp)]
          rfl
end
end Go.Vx.Z
namespace Go.Vx.Z
open Go Go.Vx Go.Proofs
set_option linter.unusedVariables false
set_option maxRecDepth 1000000
set_option maxHeartbeats 4000000
theorem F20_eq (x0 : ByteArray) (x1 x2 : List (Ty.D r0)) (x3 : List (Ty.D r4)) (x4 : List (Ty.D r2)) (x5 : List (Ty.D r3)) (x6 : ByteArray) (x7 x8 x9 : Int) (x10 : ByteArray) : F20 (x0, x1, x2, x3, x4, x5, x6, x7, x8, x9, x10, ()) =
  Option.bind (F28 (x0, x1, x2, x3, x4, x5, x6, ()))
    fun (r : ByteArray × ByteArray × Int × Int × Int × ByteArray × Bool × Unit) =>
    bif r.2.2.2.2.2.2.1 then
      Option.bind (F29 (x4, x5, r.2.1, r.2.2.1, r.2.2.2.1, r.2.2.2.2.1, r.2.2.2.2.2.1, ()))
        fun
          (r :
            Int ×
              Int ×
                Int ×
                  ByteArray ×
                    List (ByteArray × Int × Int × Int × ByteArray × Unit) × ByteArray × ByteArray × Bool × Unit) =>
        bif !r.2.2.2.2.2.2.2.1 then some ([], Int.ofNat 9, ())
        else
          Option.bind (F23 (x0, x1, x2, x3, x4, x5, r.2.2.2.2.1, ()))
            fun (r : Int × List (ByteArray × Int × Int × Int × ByteArray × Unit) × Unit) =>
            bif !r.1 == Int.ofNat 0 then some ([], r.1, ())
            else
              Option.bind (F24 (r.2.1, ()))
                fun (r : List (ByteArray × Int × Int × Int × ByteArray × Unit) × Unit) =>
                Option.bind (F31 (r.1, ()))
                  fun
                    (r :
                      List (ByteArray × Int × Int × Int × ByteArray × Unit) ×
                        List (ByteArray × Int × Int × Int × ByteArray × Unit) × Unit) =>
                  Option.bind (F30 (r.1, ()))
                    fun (r : List (ByteArray × Int × Int × Int × ByteArray × Unit) × Unit) =>
                    some (r.1, Int.ofNat 0, ())
    else
      Option.bind (F29 (x4, x5, x6, x7, x8, x9, x10, ()))
        fun
          (r :
            Int ×
              Int ×
                Int ×
                  ByteArray ×
                    List (ByteArray × Int × Int × Int × ByteArray × Unit) × ByteArray × ByteArray × Bool × Unit) =>
        bif !r.2.2.2.2.2.2.2.1 then some ([], Int.ofNat 9, ())
        else
          Option.bind (F23 (x0, x1, x2, x3, x4, x5, r.2.2.2.2.1, ()))
            fun (r : Int × List (ByteArray × Int × Int × Int × ByteArray × Unit) × Unit) =>
            bif !r.1 == Int.ofNat 0 then some ([], r.1, ())
            else
              Option.bind (F24 (r.2.1, ()))
                fun (r : List (ByteArray × Int × Int × Int × ByteArray × Unit) × Unit) =>
                Option.bind (F31 (r.1, ()))
                  fun
                    (r :
                      List (ByteArray × Int × Int × Int × ByteArray × Unit) ×
                        List (ByteArray × Int × Int × Int × ByteArray × Unit) × Unit) =>
                  Option.bind (F30 (r.1, ()))
                    fun (r : List (ByteArray × Int × Int × Int × ByteArray × Unit) × Unit) =>
                    some (r.1, Int.ofNat 0, ()) := by kernel_rfl
theorem B21_0_eq (x0 x1 : Int) (x2 : ByteArray) (x3 x4 : List (Ty.D r0)) (x5 : List (Ty.D r4)) (x6 : List (Ty.D r2)) (x7 : List (Ty.D r3)) (x8 : List (Ty.D r0)) (x9 : List (Ty.D r0 × Bool)) (x10 : List (Ty.D r0)) : B21_0 (x0, x1, x2, x3, x4, x5, x6, x7, x8, x9, x10, ()) =
  bif x0 == Int.ofNat 0 then
    bif decide (x1 < Int.ofNat (List.length x8)) then
      bif decide (Int.ofNat 0 ≤ x1) && decide (x1 < Int.ofNat (List.length x8)) then
        Option.bind x8[Int.toNat x1]? fun (y : ByteArray × Int × Int × Int × ByteArray × Unit) =>
          Option.bind
            (mget (Cx.T cx21_0) 39
              (rowTy.onto Ty.str
                (rowTy.onto
                  (rowTy.onto (Ty.int IntKind.i64)
                    (rowTy.onto (Ty.int IntKind.i64) (rowTy.onto (Ty.int IntKind.i64) (rowTy.onto Ty.str Ty.unit))))
                  Ty.unit))
              (y.1, y.2.1, y.2.2.1, y.2.2.2.1, y.2.2.2.2.1, ()) x9)
            fun (b : Bool) =>
            bif b then
              some
                (Sum.inl
                  (x0, IntKind.wrap IntKind.i64 (x1 + Int.ofNat 1), x2, x3, x4, x5, x6, x7, x8, x9, x10, ()))
            else
              Option.bind
                (mput (Cx.T cx21_0) 39
                  (rowTy.onto Ty.str
                    (rowTy.onto
                      (rowTy.onto (Ty.int IntKind.i64)
                        (rowTy.onto (Ty.int IntKind.i64) (rowTy.onto (Ty.int IntKind.i64) (rowTy.onto Ty.str Ty.unit))))
                      Ty.unit))
                  (y.1, y.2.1, y.2.2.1, y.2.2.2.1, y.2.2.2.2.1, ()) true x9)
                fun (es' : List ((ByteArray × Int × Int × Int × ByteArray × Unit) × Bool)) =>
                bif
                    decide
                      (List.length x10 + List.length [(y.1, y.2.1, y.2.2.1, y.2.2.2.1, y.2.2.2.2.1, ())] ≤
                        2513169434916) then
                  Option.bind (F20 (x2, x3, x4, x5, x6, x7, y.1, y.2.1, y.2.2.1, y.2.2.2.1, y.2.2.2.2.1, ()))
                    fun (r : List (ByteArray × Int × Int × Int × ByteArray × Unit) × Int × Unit) =>
                    bif decide (List.length x8 + List.length r.1 ≤ 2513169434916) then
                      some
                        (Sum.inl
                          (r.2.1, IntKind.wrap IntKind.i64 (x1 + Int.ofNat 1), x2, x3, x4, x5, x6, x7, x8 ++ r.1, es',
                            x10 ++ [(y.1, y.2.1, y.2.2.1, y.2.2.2.1, y.2.2.2.2.1, ())], ()))
                    else none
                else none
      else none
    else some (Sum.inr (x0, x10, ()))
  else some (Sum.inr (x0, x10, ())) := by kernel_rfl
theorem F21_eq (x0 : ByteArray) (x1 x2 : List (Ty.D r0)) (x3 : List (Ty.D r4)) (x4 : List (Ty.D r2)) (x5 : List (Ty.D r3)) : F21 (x0, x1, x2, x3, x4, x5, ()) =
  Option.bind (F23 (x0, x1, x2, x3, x4, x5, x1, ()))
    fun (r : Int × List (ByteArray × Int × Int × Int × ByteArray × Unit) × Unit) =>
    Option.bind (loop B21_0 (r.1, Int.ofNat 0, x0, x1, x2, x3, x4, x5, r.2.1, [], [], ()))
      fun (r : Int × List (ByteArray × Int × Int × Int × ByteArray × Unit) × Unit) =>
      bif !r.1 == Int.ofNat 0 then some ([], r.1, ()) else some (r.2.1, Int.ofNat 0, ()) := by kernel_rfl
theorem F32_eq (x0 : List (Ty.D r0)) : F32 (x0, ()) =
  Option.bind (F43 (x0, ()))
    fun
      (r :
        List (ByteArray × Int × Int × Int × ByteArray × Unit) ×
          List (ByteArray × Int × Int × Int × ByteArray × Unit) × Unit) =>
    Option.bind (F24 (r.2.1, ())) fun (r_1 : List (ByteArray × Int × Int × Int × ByteArray × Unit) × Unit) =>
      some (r.1, r_1.1, ()) := by kernel_rfl
theorem B22_0_eq (x0 x1 : Int) (x2 : List (Ty.D r0)) (x3 : ByteArray) (x4 x5 : List (Ty.D r0)) (x6 : List (Ty.D r4)) (x7 : List (Ty.D r2)) (x8 : List (Ty.D r3)) (x9 : List (Ty.D r6)) : B22_0 (x0, x1, x2, x3, x4, x5, x6, x7, x8, x9, ()) =
  bif decide (x1 < x0) then
    bif decide (Int.ofNat 0 ≤ x1) && decide (x1 < Int.ofNat (List.length x2)) then
      Option.bind x2[Int.toNat x1]? fun (y : ByteArray × Int × Int × Int × ByteArray × Unit) =>
        bif decide (IntKind.wrap IntKind.i64 (x1 + Int.ofNat 1) < Int.ofNat (List.length x2)) then
          bif
              decide (Int.ofNat 0 ≤ IntKind.wrap IntKind.i64 (x1 + Int.ofNat 1)) &&
                decide (IntKind.wrap IntKind.i64 (x1 + Int.ofNat 1) < Int.ofNat (List.length x2)) then
            Option.bind x2[Int.toNat (IntKind.wrap IntKind.i64 (x1 + Int.ofNat 1))]?
              fun (y_1 : ByteArray × Int × Int × Int × ByteArray × Unit) =>
              bif ByteArray.toList y_1.1 == ByteArray.toList y.1 then
                some
                  (Sum.inl
                    (x0, IntKind.wrap IntKind.i64 (x1 + Int.ofNat 1), x2, x3, x4, x5, x6, x7, x8, x9, ()))
              else
                Option.bind (F28 (x3, x4, x5, x6, x7, x8, y.1, ()))
                  fun (r : ByteArray × ByteArray × Int × Int × Int × ByteArray × Bool × Unit) =>
                  bif
                      decide
                        (List.length x9 +
                            List.length
                              [(y.1, y.2.1, y.2.2.1, y.2.2.2.1, y.2.2.2.2.1, r.2.1, r.2.2.1, r.2.2.2.1, r.2.2.2.2.1,
                                  r.2.2.2.2.2.1, ())] ≤
                          1256584717458) then
                    some
                      (Sum.inl
                        (x0, IntKind.wrap IntKind.i64 (x1 + Int.ofNat 1), x2, x3, x4, x5, x6, x7, x8,
                          x9 ++
                            [(y.1, y.2.1, y.2.2.1, y.2.2.2.1, y.2.2.2.2.1, r.2.1, r.2.2.1, r.2.2.2.1, r.2.2.2.2.1,
                                r.2.2.2.2.2.1, ())],
                          ()))
                  else none
          else none
        else
          Option.bind (F28 (x3, x4, x5, x6, x7, x8, y.1, ()))
            fun (r : ByteArray × ByteArray × Int × Int × Int × ByteArray × Bool × Unit) =>
            bif
                decide
                  (List.length x9 +
                      List.length
                        [(y.1, y.2.1, y.2.2.1, y.2.2.2.1, y.2.2.2.2.1, r.2.1, r.2.2.1, r.2.2.2.1, r.2.2.2.2.1,
                            r.2.2.2.2.2.1, ())] ≤
                    1256584717458) then
              some
                (Sum.inl
                  (x0, IntKind.wrap IntKind.i64 (x1 + Int.ofNat 1), x2, x3, x4, x5, x6, x7, x8,
                    x9 ++
                      [(y.1, y.2.1, y.2.2.1, y.2.2.2.1, y.2.2.2.2.1, r.2.1, r.2.2.1, r.2.2.2.1, r.2.2.2.2.1,
                          r.2.2.2.2.2.1, ())],
                    ()))
            else none
    else none
  else some (Sum.inr (x9, ())) := by kernel_rfl
theorem F22_eq (x0 : ByteArray) (x1 x2 : List (Ty.D r0)) (x3 : List (Ty.D r4)) (x4 : List (Ty.D r2)) (x5 : List (Ty.D r3)) (x6 : List (Ty.D r0)) : F22 (x0, x1, x2, x3, x4, x5, x6, ()) =
  Option.bind (F33 (x6, ())) fun (r : List (ByteArray × Int × Int × Int × ByteArray × Unit) × Unit) =>
    Option.bind (F32 (r.1, ()))
      fun
        (r :
          List (ByteArray × Int × Int × Int × ByteArray × Unit) ×
            List (ByteArray × Int × Int × Int × ByteArray × Unit) × Unit) =>
      Option.bind
        (loop B22_0 (Int.ofNat (List.length r.2.1), Int.ofNat 0, r.2.1, x0, x1, x2, x3, x4, x5, [], ()))
        fun
          (r :
            List (ByteArray × Int × Int × Int × ByteArray × ByteArray × Int × Int × Int × ByteArray × Unit) × Unit) =>
        Option.bind (F34 (r.1, ()))
          fun
            (r :
              List (ByteArray × Int × Int × Int × ByteArray × ByteArray × Int × Int × Int × ByteArray × Unit) ×
                Unit) =>
          some (r.1, ()) := by kernel_rfl
theorem F9_eq (x0 : List (Ty.D r2)) (x1 : List (Ty.D r3)) (x2 : ByteArray) (x3 x4 : List (Ty.D r0)) (x5 : List (Ty.D r4)) : F9 (x0, x1, x2, x3, x4, x5, ()) =
  Option.bind (F19 (x0, x1, x2, x3, x4, x5, ()))
    fun
      (r :
        ByteArray ×
          List (ByteArray × Int × Int × Int × ByteArray × Unit) ×
            List (ByteArray × Int × Int × Int × ByteArray × Unit) ×
              List (ByteArray × ByteArray × Int × Int × Int × ByteArray × Unit) ×
                List
                    (ByteArray ×
                      List
                          (Int ×
                            Int ×
                              Int ×
                                ByteArray ×
                                  List (ByteArray × Int × Int × Int × ByteArray × Unit) ×
                                    ByteArray × ByteArray × Unit) ×
                        Unit) ×
                  List (ByteArray × ByteArray × Bool × Bool × Int × Int × Int × ByteArray × Int × Unit) × Unit) =>
    Option.bind (F21 (r.1, r.2.1, r.2.2.1, r.2.2.2.1, r.2.2.2.2.1, r.2.2.2.2.2.1, ()))
      fun (r_1 : List (ByteArray × Int × Int × Int × ByteArray × Unit) × Int × Unit) =>
      bif !r_1.2.1 == Int.ofNat 0 then some ([], r_1.2.1, ())
      else
        Option.bind (F22 (r.1, r.2.1, r.2.2.1, r.2.2.2.1, r.2.2.2.2.1, r.2.2.2.2.2.1, r_1.1, ()))
          fun
            (r :
              List (ByteArray × Int × Int × Int × ByteArray × ByteArray × Int × Int × Int × ByteArray × Unit) ×
                Unit) =>
          some (r.1, Int.ofNat 0, ()) := by kernel_rfl
theorem F5_eq  : F5 (()) =
  Option.bind
  (F9
    ([((lit [97]),
          [(Int.ofNat 1, Int.ofNat 0, Int.ofNat 0, (lit []),
              [((lit [98]),
                  Int.ofNat 1, Int.ofNat 1, Int.ofNat 0, (lit []), ())],
              (lit []), (lit []), ())],
          ()),
        ((lit [98]),
          [(Int.ofNat 1, Int.ofNat 0, Int.ofNat 0, (lit []), [], (lit []),
              (lit []), ()),
            (Int.ofNat 1, Int.ofNat 1, Int.ofNat 0, (lit []), [], (lit []),
              (lit []), ())],
          ())],
      [], (lit [109]), [],
      [], [], ()))
  fun
    (r :
      List (ByteArray × Int × Int × Int × ByteArray × ByteArray × Int × Int × Int × ByteArray × Unit) × Int × Unit) =>
  Option.bind
    (F9
      ([((lit [97]),
            [(Int.ofNat 1, Int.ofNat 0, Int.ofNat 0, (lit []),
                [((lit [98]),
                    Int.ofNat 1, Int.ofNat 1, Int.ofNat 0, (lit []), ())],
                (lit []), (lit []), ())],
            ()),
          ((lit [98]),
            [(Int.ofNat 1, Int.ofNat 0, Int.ofNat 0, (lit []), [], (lit []),
                (lit []), ()),
              (Int.ofNat 1, Int.ofNat 1, Int.ofNat 0, (lit []), [], (lit []),
                (lit []), ())],
            ())],
        [], (lit [109]),
        [((lit [97]),
            Int.ofNat 1, Int.ofNat 0, Int.ofNat 0, (lit []), ()),
          ((lit [98]),
            Int.ofNat 1, Int.ofNat 0, Int.ofNat 0, (lit []), ())],
        [], [], ()))
    fun
      (r_1 :
        List (ByteArray × Int × Int × Int × ByteArray × ByteArray × Int × Int × Int × ByteArray × Unit) ×
          Int × Unit) =>
    bif !Int.ofNat (List.length r_1.1) == Int.ofNat 2 then some (false, ())
    else
      Option.bind
        (F10
          (r_1.1,
            (lit [98]),
            ()))
        fun (r_2 : ByteArray × Int × Int × Int × ByteArray × ByteArray × Int × Int × Int × ByteArray × Bool × Unit) =>
        bif r.2.1 == Int.ofNat 0 then
          bif Int.ofNat (List.length r.1) == Int.ofNat 0 then
            bif r_1.2.1 == Int.ofNat 0 then
              bif r_2.2.2.2.2.2.2.2.2.2.2.1 then
                some
                  (r_2.2.1 == Int.ofNat 1 &&
                      (r_2.2.2.1 == Int.ofNat 1 &&
                        (r_2.2.2.2.1 == Int.ofNat 0 && ByteArray.toList r_2.2.2.2.2.1 == [])),
                    ())
              else some (false, ())
            else some (false, ())
          else some (false, ())
        else some (false, ()) := by kernel_rfl
theorem F8_eq (x0 : List (Ty.D r2)) (x1 : List (Ty.D r3)) (x2 : ByteArray) (x3 x4 : List (Ty.D r0)) (x5 : List (Ty.D r4)) (x6 : ByteArray) (x7 x8 x9 : Int) (x10 : ByteArray) : F8 (x0, x1, x2, x3, x4, x5, x6, x7, x8, x9, x10, ()) =
  Option.bind (F19 (x0, x1, x2, x3, x4, x5, ()))
    fun
      (r :
        ByteArray ×
          List (ByteArray × Int × Int × Int × ByteArray × Unit) ×
            List (ByteArray × Int × Int × Int × ByteArray × Unit) ×
              List (ByteArray × ByteArray × Int × Int × Int × ByteArray × Unit) ×
                List
                    (ByteArray ×
                      List
                          (Int ×
                            Int ×
                              Int ×
                                ByteArray ×
                                  List (ByteArray × Int × Int × Int × ByteArray × Unit) ×
                                    ByteArray × ByteArray × Unit) ×
                        Unit) ×
                  List (ByteArray × ByteArray × Bool × Bool × Int × Int × Int × ByteArray × Int × Unit) × Unit) =>
    Option.bind (F20 (r.1, r.2.1, r.2.2.1, r.2.2.2.1, r.2.2.2.2.1, r.2.2.2.2.2.1, x6, x7, x8, x9, x10, ()))
      fun (r : List (ByteArray × Int × Int × Int × ByteArray × Unit) × Int × Unit) => some (r.1, r.2.1, ()) := by kernel_rfl
theorem B12_0_eq (x0 x1 : Int) (x2 : ByteArray) (x3 x4 : List (Ty.D r0)) (x5 : List (Ty.D r4)) (x6 : List (Ty.D r2)) (x7 : List (Ty.D r3)) (x8 : ByteArray) (x9 x10 x11 : Int) (x12 : ByteArray) (x13 : List (List (Ty.D r0))) (x14 : List (Ty.D r0 × Bool)) (x15 : List (Ty.D r0)) : B12_0 (x0, x1, x2, x3, x4, x5, x6, x7, x8, x9, x10, x11, x12, x13, x14, x15, ()) =
  bif decide (x1 < x0) then
    bif decide (Int.ofNat 0 ≤ x1) && decide (x1 < Int.ofNat (List.length x15)) then
      Option.bind x15[Int.toNat x1]? fun (y : ByteArray × Int × Int × Int × ByteArray × Unit) =>
        Option.bind
          (mget (Cx.T cx12_0) 39
            (rowTy.onto Ty.str
              (rowTy.onto
                (rowTy.onto (Ty.int IntKind.i64)
                  (rowTy.onto (Ty.int IntKind.i64) (rowTy.onto (Ty.int IntKind.i64) (rowTy.onto Ty.str Ty.unit))))
                Ty.unit))
            (y.1, y.2.1, y.2.2.1, y.2.2.2.1, y.2.2.2.2.1, ()) x14)
          fun (b : Bool) =>
          bif !b then
            Option.bind
              (mput (Cx.T cx12_0) 39
                (rowTy.onto Ty.str
                  (rowTy.onto
                    (rowTy.onto (Ty.int IntKind.i64)
                      (rowTy.onto (Ty.int IntKind.i64) (rowTy.onto (Ty.int IntKind.i64) (rowTy.onto Ty.str Ty.unit))))
                    Ty.unit))
                (y.1, y.2.1, y.2.2.1, y.2.2.2.1, y.2.2.2.2.1, ()) true x14)
              fun (es' : List ((ByteArray × Int × Int × Int × ByteArray × Unit) × Bool)) =>
              bif
                  decide
                    (List.length x13 + List.length [[(y.1, y.2.1, y.2.2.1, y.2.2.2.1, y.2.2.2.2.1, ())]] ≤
                      5864062014805) then
                some
                  (Sum.inl
                    (x0, IntKind.wrap IntKind.i64 (x1 + Int.ofNat 1), x2, x3, x4, x5, x6, x7, x8, x9, x10, x11, x12,
                      x13 ++ [[(y.1, y.2.1, y.2.2.1, y.2.2.2.1, y.2.2.2.2.1, ())]], es', x15, ()))
              else none
          else
            some
              (Sum.inl
                (x0, IntKind.wrap IntKind.i64 (x1 + Int.ofNat 1), x2, x3, x4, x5, x6, x7, x8, x9, x10, x11, x12, x13,
                  x14, x15, ()))
    else none
  else some (Sum.inr (x2, x3, x4, x5, x6, x7, x8, x9, x10, x11, x12, x13, x14, ())) := by kernel_rfl
theorem B12_1_eq (x0 : Int) (x1 : List (Ty.D r0)) (x2 x3 : Int) (x4 : ByteArray) (x5 x6 : List (Ty.D r0)) (x7 : List (Ty.D r4)) (x8 : List (Ty.D r2)) (x9 : List (Ty.D r3)) (x10 : ByteArray) (x11 x12 x13 : Int) (x14 : ByteArray) (x15 : List (List (Ty.D r0))) (x16 : List (Ty.D r0 × Bool)) : B12_1 (x0, x1, x2, x3, x4, x5, x6, x7, x8, x9, x10, x11, x12, x13, x14, x15, x16, ()) =
  bif decide (x3 < x2) then
    bif decide (Int.ofNat 0 ≤ x3) then
      Option.bind x1[Int.toNat x3]? fun (y : ByteArray × Int × Int × Int × ByteArray × Unit) =>
        Option.bind
          (mget (Cx.T cx12_1) 39
            (rowTy.onto Ty.str
              (rowTy.onto
                (rowTy.onto (Ty.int IntKind.i64)
                  (rowTy.onto (Ty.int IntKind.i64) (rowTy.onto (Ty.int IntKind.i64) (rowTy.onto Ty.str Ty.unit))))
                Ty.unit))
            (y.1, y.2.1, y.2.2.1, y.2.2.2.1, y.2.2.2.2.1, ()) x16)
          fun (b : Bool) =>
          bif !b then
            Option.bind
              (mput (Cx.T cx12_1) 39
                (rowTy.onto Ty.str
                  (rowTy.onto
                    (rowTy.onto (Ty.int IntKind.i64)
                      (rowTy.onto (Ty.int IntKind.i64) (rowTy.onto (Ty.int IntKind.i64) (rowTy.onto Ty.str Ty.unit))))
                    Ty.unit))
                (y.1, y.2.1, y.2.2.1, y.2.2.2.1, y.2.2.2.2.1, ()) true x16)
              fun (es' : List ((ByteArray × Int × Int × Int × ByteArray × Unit) × Bool)) =>
              bif decide (Int.ofNat 0 ≤ x0) then
                Option.bind x15[Int.toNat x0]? fun (y_1 : List (ByteArray × Int × Int × Int × ByteArray × Unit)) =>
                  Option.bind (F26 (y_1, ()))
                    fun (r : List (ByteArray × Int × Int × Int × ByteArray × Unit) × Unit) =>
                    bif
                        decide
                          (List.length r.1 + List.length [(y.1, y.2.1, y.2.2.1, y.2.2.2.1, y.2.2.2.2.1, ())] ≤
                            2513169434916) then
                      bif
                          decide
                            (List.length x15 +
                                List.length [r.1 ++ [(y.1, y.2.1, y.2.2.1, y.2.2.2.1, y.2.2.2.2.1, ())]] ≤
                              5864062014805) then
                        none
                      else none
                    else none
              else none
          else
            some
              (Sum.inl
                (x0, x1, x2, IntKind.wrap IntKind.i64 (x3 + Int.ofNat 1), x4, x5, x6, x7, x8, x9, x10, x11, x12, x13,
                  x14, x15, x16, ()))
    else none
  else some (Sum.inr (x0, x4, x5, x6, x7, x8, x9, x10, x11, x12, x13, x14, x15, x16, ())) := by kernel_rfl
theorem B12_2_eq (x0 : Int) (x1 : ByteArray) (x2 x3 : List (Ty.D r0)) (x4 : List (Ty.D r4)) (x5 : List (Ty.D r2)) (x6 : List (Ty.D r3)) (x7 : ByteArray) (x8 x9 x10 : Int) (x11 : ByteArray) (x12 : List (List (Ty.D r0))) (x13 : List (Ty.D r0 × Bool)) : B12_2 (x0, x1, x2, x3, x4, x5, x6, x7, x8, x9, x10, x11, x12, x13, ()) =
  bif decide (x0 < Int.ofNat (List.length x12)) then
    bif decide (Int.ofNat 0 ≤ x0) then
      Option.bind x12[Int.toNat x0]? fun (y : List (ByteArray × Int × Int × Int × ByteArray × Unit)) =>
        bif decide (Int.ofNat 0 ≤ x0) then
          Option.bind x12[Int.toNat x0]? fun (y_1 : List (ByteArray × Int × Int × Int × ByteArray × Unit)) =>
            bif decide (Int.ofNat 0 ≤ IntKind.wrap IntKind.i64 (Int.ofNat (List.length y_1) - Int.ofNat 1)) then
              Option.bind y[Int.toNat (IntKind.wrap IntKind.i64 (Int.ofNat (List.length y_1) - Int.ofNat 1))]?
                fun (y : ByteArray × Int × Int × Int × ByteArray × Unit) =>
                bif
                    ByteArray.toList y.1 == ByteArray.toList x7 &&
                      (y.2.1 == x8 &&
                        (y.2.2.1 == x9 &&
                          (y.2.2.2.1 == x10 && ByteArray.toList y.2.2.2.2.1 == ByteArray.toList x11))) then
                  bif decide (Int.ofNat 0 ≤ x0) then
                    Option.bind x12[Int.toNat x0]? fun (y : List (ByteArray × Int × Int × Int × ByteArray × Unit)) =>
                      Option.bind (F26 (y, ()))
                        fun (r : List (ByteArray × Int × Int × Int × ByteArray × Unit) × Unit) =>
                        some (Sum.inr (Sum.inl (true, r.1, ())))
                  else none
                else
                  Option.bind (F20 (x1, x2, x3, x4, x5, x6, y.1, y.2.1, y.2.2.1, y.2.2.2.1, y.2.2.2.2.1, ()))
                    fun (r : List (ByteArray × Int × Int × Int × ByteArray × Unit) × Int × Unit) =>
                    Option.bind
                      (loop B12_1
                        (x0, r.1, Int.ofNat (List.length r.1), Int.ofNat 0, x1, x2, x3, x4, x5, x6, x7, x8, x9, x10,
                          x11, x12, x13, ()))
                      fun
                        (r :
                          Int ×
                            ByteArray ×
                              List (ByteArray × Int × Int × Int × ByteArray × Unit) ×
                                List (ByteArray × Int × Int × Int × ByteArray × Unit) ×
                                  List (ByteArray × ByteArray × Int × Int × Int × ByteArray × Unit) ×
                                    List
                                        (ByteArray ×
                                          List
                                              (Int ×
                                                Int ×
                                                  Int ×
                                                    ByteArray ×
                                                      List (ByteArray × Int × Int × Int × ByteArray × Unit) ×
                                                        ByteArray × ByteArray × Unit) ×
                                            Unit) ×
                                      List
                                          (ByteArray ×
                                            ByteArray × Bool × Bool × Int × Int × Int × ByteArray × Int × Unit) ×
                                        ByteArray ×
                                          Int ×
                                            Int ×
                                              Int ×
                                                ByteArray ×
                                                  List (List (ByteArray × Int × Int × Int × ByteArray × Unit)) ×
                                                    List ((ByteArray × Int × Int × Int × ByteArray × Unit) × Bool) ×
                                                      Unit) =>
                      some
                        (Sum.inl
                          (IntKind.wrap IntKind.i64 (r.1 + Int.ofNat 1), r.2.1, r.2.2.1, r.2.2.2.1, r.2.2.2.2.1,
                            r.2.2.2.2.2.1, r.2.2.2.2.2.2.1, r.2.2.2.2.2.2.2.1, r.2.2.2.2.2.2.2.2.1,
                            r.2.2.2.2.2.2.2.2.2.1, r.2.2.2.2.2.2.2.2.2.2.1, r.2.2.2.2.2.2.2.2.2.2.2.1,
                            r.2.2.2.2.2.2.2.2.2.2.2.2.1, r.2.2.2.2.2.2.2.2.2.2.2.2.2.1, ()))
            else none
        else none
    else none
  else some (Sum.inr (Sum.inr ())) := by kernel_rfl
theorem F12_eq (x0 : List (Ty.D r2)) (x1 : List (Ty.D r3)) (x2 : ByteArray) (x3 x4 : List (Ty.D r0)) (x5 : List (Ty.D r4)) (x6 : ByteArray) : F12 (x0, x1, x2, x3, x4, x5, x6, ()) =
  Option.bind (F19 (x0, x1, x2, x3, x4, x5, ()))
    fun
      (r :
        ByteArray ×
          List (ByteArray × Int × Int × Int × ByteArray × Unit) ×
            List (ByteArray × Int × Int × Int × ByteArray × Unit) ×
              List (ByteArray × ByteArray × Int × Int × Int × ByteArray × Unit) ×
                List
                    (ByteArray ×
                      List
                          (Int ×
                            Int ×
                              Int ×
                                ByteArray ×
                                  List (ByteArray × Int × Int × Int × ByteArray × Unit) ×
                                    ByteArray × ByteArray × Unit) ×
                        Unit) ×
                  List (ByteArray × ByteArray × Bool × Bool × Int × Int × Int × ByteArray × Int × Unit) × Unit) =>
    Option.bind (F21 (r.1, r.2.1, r.2.2.1, r.2.2.2.1, r.2.2.2.2.1, r.2.2.2.2.2.1, ()))
      fun (r_1 : List (ByteArray × Int × Int × Int × ByteArray × Unit) × Int × Unit) =>
      Option.bind (F22 (r.1, r.2.1, r.2.2.1, r.2.2.2.1, r.2.2.2.2.1, r.2.2.2.2.2.1, r_1.1, ()))
        fun
          (r_2 :
            List (ByteArray × Int × Int × Int × ByteArray × ByteArray × Int × Int × Int × ByteArray × Unit) × Unit) =>
        Option.bind (F10 (r_2.1, x6, ()))
          fun
            (r_3 : ByteArray × Int × Int × Int × ByteArray × ByteArray × Int × Int × Int × ByteArray × Bool × Unit) =>
          bif !r_1.2.1 == Int.ofNat 0 then some ([], false, ())
          else
            bif !r_3.2.2.2.2.2.2.2.2.2.2.1 then some ([], false, ())
            else
              Option.bind (F23 (r.1, r.2.1, r.2.2.1, r.2.2.2.1, r.2.2.2.2.1, r.2.2.2.2.2.1, r.2.1, ()))
                fun (r_4 : Int × List (ByteArray × Int × Int × Int × ByteArray × Unit) × Unit) =>
                Option.bind (F24 (r_4.2.1, ()))
                  fun (r_5 : List (ByteArray × Int × Int × Int × ByteArray × Unit) × Unit) =>
                  Option.bind
                    (loop B12_0
                      (Int.ofNat (List.length r_5.1), Int.ofNat 0, r.1, r.2.1, r.2.2.1, r.2.2.2.1, r.2.2.2.2.1,
                        r.2.2.2.2.2.1, x6, r_3.2.1, r_3.2.2.1, r_3.2.2.2.1, r_3.2.2.2.2.1, [], [], r_5.1, ()))
                    fun
                      (r :
                        ByteArray ×
                          List (ByteArray × Int × Int × Int × ByteArray × Unit) ×
                            List (ByteArray × Int × Int × Int × ByteArray × Unit) ×
                              List (ByteArray × ByteArray × Int × Int × Int × ByteArray × Unit) ×
                                List
                                    (ByteArray ×
                                      List
                                          (Int ×
                                            Int ×
                                              Int ×
                                                ByteArray ×
                                                  List (ByteArray × Int × Int × Int × ByteArray × Unit) ×
                                                    ByteArray × ByteArray × Unit) ×
                                        Unit) ×
                                  List
                                      (ByteArray ×
                                        ByteArray × Bool × Bool × Int × Int × Int × ByteArray × Int × Unit) ×
                                    ByteArray ×
                                      Int ×
                                        Int ×
                                          Int ×
                                            ByteArray ×
                                              List (List (ByteArray × Int × Int × Int × ByteArray × Unit)) ×
                                                List ((ByteArray × Int × Int × Int × ByteArray × Unit) × Bool) ×
                                                  Unit) =>
                    Option.bind
                      (loop B12_2
                        (Int.ofNat 0, r.1, r.2.1, r.2.2.1, r.2.2.2.1, r.2.2.2.2.1, r.2.2.2.2.2.1, r.2.2.2.2.2.2.1,
                          r.2.2.2.2.2.2.2.1, r.2.2.2.2.2.2.2.2.1, r.2.2.2.2.2.2.2.2.2.1, r.2.2.2.2.2.2.2.2.2.2.1,
                          r.2.2.2.2.2.2.2.2.2.2.2.1, r.2.2.2.2.2.2.2.2.2.2.2.2.1, ()))
                      fun (r : Bool × List (ByteArray × Int × Int × Int × ByteArray × Unit) × Unit ⊕ Unit) =>
                      Sum.elim
                        (fun (p : Bool × List (ByteArray × Int × Int × Int × ByteArray × Unit) × Unit) =>
                          some (p.2.1, p.1, ()))
                        (fun (p : Unit) => some ([], false, ())) r := by kernel_rfl
end Go.Vx.Z
/-! All that some ask for; what a release asks for. -/
namespace Go.Vx
open Go
set_option linter.unusedVariables false
/-- Each once, where equal ones lie side by side. -/
def compactOf : List Req → List Req
  | [] => []
  | [x] => [x]
  | x :: y :: l => if x = y then compactOf (y :: l) else x :: compactOf (y :: l)
theorem compactOf_snoc (z : Req) : ∀ (l : List Req), compactOf (l ++ [z]) = if l.getLast? = some z then compactOf l else compactOf l ++ [z]
  | [] => by simp [compactOf]
  | [x] => by
    simp only [List.cons_append, List.nil_append, compactOf, List.getLast?_singleton, Option.some.injEq]
    by_cases h : x = z <;> simp [h]
  | x :: y :: l => by
    have ih := compactOf_snoc z (y :: l)
    simp only [List.cons_append, compactOf] at ih ⊢
    rw [ih]
    simp only [List.getLast?_cons_cons]
    by_cases h : x = y <;> by_cases h' : (y :: l).getLast? = some z <;> simp [h, h']
theorem wrap_prev {i n : Nat} (h0 : 1 ≤ i) (h : i ≤ n) (hn : n ≤ 9223372036854775807) : IntKind.wrap IntKind.i64 ((i : Int) - Int.ofNat 1) = ((i - 1 : Nat) : Int) := by
  rw [wrap64 (by simp; omega) (by simp; omega)]
  simp; omega
/-- What is asked for in a pair's stead. -/
def standsFor (sw : List Swp) (r : Req) : Req := (swapOf sw r.1).elim r fun y => y.2
/-- What a release asks for. -/
def asksOf (md : ByteArray) (ex : List Req) (sw : List Swp) (w : List Mod) (r : Req) : Int × List Req :=
  match relOf w (standsFor sw r).1 (standsFor sw r).2 with
  | none => (9, [])
  | some y => if (allOf md ex sw w y.reqs).1 = 0 then (0, compactOf (sortBy cmpR (allOf md ex sw w y.reqs).2)) else ((allOf md ex sw w y.reqs).1, [])
end Go.Vx
namespace Go.Vx.Z
open Go Go.Vx
set_option linter.unusedVariables false
set_option maxRecDepth 100000
section
variable (md : ByteArray) (rq ex : List Req) (sw : List Swp) (w : List Mod) (rv : List Rev)
def joinOf (acc : List Req) (t : Int × List Req) : Int × List Req := if t.1 = 0 then (0, acc ++ t.2) else (t.1, [])
theorem saidOf_err (r : Req) (h : (saidOf md ex sw w r).1 ≠ 0) : (saidOf md ex sw w r).2 = none := by
  unfold saidOf at h ⊢
  split
  · rename_i h1; rw [if_pos h1] at h; exact absurd rfl h
  · split
    · rfl
    · split
      · split
        · rfl
        · rename_i h1 h2 h3 h4; rw [if_neg h1, if_neg h2, if_pos h3, if_neg h4] at h; exact absurd rfl h
      · split
        · rename_i h1 h2 h3 h4; rw [if_neg h1, if_neg h2, if_neg h3, if_pos h4] at h; exact absurd rfl h
        · rfl
theorem saidOf_some (r q : Req) (h : (saidOf md ex sw w r).2 = some q) : (saidOf md ex sw w r).1 = 0 := by
  by_cases h0 : (saidOf md ex sw w r).1 = 0
  · exact h0
  · rw [saidOf_err md ex sw w r h0] at h; cases h
theorem F23_is (l : List Req) (hl : ∀ r ∈ l, okV r.2 = true) (hn : l.length ≤ big) (h : okS ex sw w) : F23 (md, rq, ex, sw, w, rv, l, ()) = some ((allOf md ex sw w l).1, (allOf md ex sw w l).2, ()) := by
  rw [F23_eq]
  obtain ⟨e, h1, h2⟩ := loop_inv (B := B23_0) (fun p => ∃ (i : Nat) (acc : List Req), i ≤ l.length ∧ acc.length ≤ i ∧ allOf md ex sw w l = joinOf acc (allOf md ex sw w (l.drop i)) ∧ p = (l, Int.ofNat l.length, (i : Int), md, rq, ex, sw, w, rv, acc, ())) (fun p => (Int.ofNat l.length - p.2.2.1).toNat)
    (fun e => (e = .inl ((allOf md ex sw w l).1, ()) ∧ (allOf md ex sw w l).2 = []) ∨ (e = .inr ((allOf md ex sw w l).2, ()) ∧ (allOf md ex sw w l).1 = 0)) (by
      rintro p ⟨i, acc, hi, ha, hj, rfl⟩
      rw [B23_0_eq]
      by_cases hlt : i < l.length
      · rw [lt_in hlt, ge_zero, at_in hlt, wrap_next hlt (by simp only [big] at hn; omega)]
        simp only [cond_true, Option.bind_some]
        rw [F35_is md rq ex sw w rv l[i] (hl _ (List.getElem_mem hlt)) h, Option.bind_some]
        rw [List.drop_eq_getElem_cons hlt] at hj
        cases hq : (saidOf md ex sw w l[i]).2 with
        | none =>
          simp only [Option.elim_none]
          by_cases h0 : (saidOf md ex sw w l[i]).1 = 0
          · rw [show (!(saidOf md ex sw w l[i]).1 == Int.ofNat 0) = false by rw [h0]; rfl]
            refine .inl ⟨_, rfl, ⟨i + 1, acc, hlt, by omega, ?_, rfl⟩, ?_⟩
            · rw [hj]
              simp only [allOf, h0, if_true, hq, Option.toList_none, List.nil_append, joinOf]
              split <;> simp_all
            · simp; omega
          · have hb : (!(saidOf md ex sw w l[i]).1 == Int.ofNat 0) = true := by
              rw [Bool.not_eq_true', ← Bool.not_eq_true]
              intro e; exact h0 (by simpa using e)
            rw [hb]
            have : allOf md ex sw w l = ((saidOf md ex sw w l[i]).1, []) := by
              rw [hj]
              simp only [allOf, if_neg h0, joinOf]
            refine .inr ⟨_, rfl, .inl ⟨?_, by rw [this]⟩⟩
            rw [this]
        | some q =>
          have h0 := saidOf_some md ex sw w l[i] q hq
          simp only [Option.elim_some]
          rw [show (!(0 : Int) == Int.ofNat 0) = false from rfl]
          have e2 : decide (acc.length + [(q.1, q.2.1, q.2.2.1, q.2.2.2.1, q.2.2.2.2.1, ())].length ≤ 2513169434916) = true := by
            rw [decide_eq_true_eq]
            simp only [big] at hn
            simp only [List.length_cons, List.length_nil]
            omega
          simp only [cond_false, cond_true]
          rw [e2]
          refine .inl ⟨_, rfl, ⟨i + 1, acc ++ [q], hlt, by simp; omega, ?_, rfl⟩, ?_⟩
          · rw [hj]
            simp only [allOf, h0, if_true, hq, Option.toList_some, joinOf]
            split <;> simp_all
          · simp; omega
      · have : i = l.length := by omega
        subst this
        rw [lt_out]
        rw [List.drop_length] at hj
        have hj' : allOf md ex sw w l = (0, acc) := by rw [hj]; simp [allOf, joinOf]
        exact .inr ⟨_, rfl, .inr ⟨by rw [hj'], by rw [hj']⟩⟩) (l, Int.ofNat l.length, Int.ofNat 0, md, rq, ex, sw, w, rv, [], ()) ⟨0, [], by omega, by simp, by
        simp only [List.drop_zero, joinOf, List.nil_append]
        by_cases h0 : (allOf md ex sw w l).1 = 0
        · rw [if_pos h0]; exact Prod.ext h0 rfl
        · rw [if_neg h0]
          refine Prod.ext rfl ?_
          cases l with
          | nil => rfl
          | cons r l =>
            simp only [allOf] at h0 ⊢
            split
            · rename_i q1; rw [if_pos q1] at h0
              split
              · rename_i q2; rw [if_pos q2] at h0; exact absurd rfl h0
              · rfl
            · rfl, rfl⟩
  rw [h1, Option.bind_some]
  rcases h2 with ⟨rfl, h3⟩ | ⟨rfl, h3⟩
  · show some ((allOf md ex sw w l).1, [], ()) = _
    rw [h3]
  · show some (Int.ofNat 0, (allOf md ex sw w l).2, ()) = _
    rw [h3]; rfl
end
theorem take_last {l : List Req} {k : Nat} (h0 : 1 ≤ k) (h : k ≤ l.length) : (l.take k).getLast? = l[k - 1]? := by
  rw [List.getLast?_eq_getElem?, List.length_take, Nat.min_eq_left h, List.getElem?_take, if_pos (by omega)]
theorem compact_in (l : List Req) (k0 : Nat) (h1 : 1 ≤ k0) (hk : k0 < l.length) (hn : l.length ≤ big) (heq : l[k0] = l[k0 - 1]) (hc : compactOf (l.take k0) = l.take k0) :
    ∃ (k' : Nat) (b : List Req), loop B31_0 ((k0 : Int), k0, l.length, ((1 : Nat) : Int), l, ()) = some ((k' : Int), b, ()) ∧ k' ≤ l.length ∧ b.length = l.length ∧ b.take k' = compactOf l := by
  obtain ⟨⟨k', b⟩, h4, h5⟩ := loop_upto (B := B31_0) (l.length - k0) (fun j (b : Nat × List Req) => ((b.1 : Int), k0, l.length, (j : Int), b.2, ())) (fun b => ((b.1 : Int), b.2, ()))
    (fun j b => 1 ≤ j ∧ b.1 + 1 ≤ k0 + j ∧ b.2.length = l.length ∧ b.2.drop b.1 = l.drop b.1 ∧ b.2.take b.1 = compactOf (l.take (k0 + j))) (by
      rintro j hj ⟨i0, b⟩ ⟨q0, q1, q2, q3, q4⟩
      simp only at q1 q2 q3 q4 ⊢
      have hkj : k0 + j < l.length := by omega
      have hkb : k0 + j < b.length := by omega
      have hget : ∀ t, i0 ≤ t → b[t]? = l[t]? := fun t ht => by
        have := congrArg (fun z => z[t - i0]?) q3
        simpa [List.getElem?_drop, show i0 + (t - i0) = t by omega] using this
      have g1 : b[k0 + Int.toNat (j : Int)]? = some l[k0 + j] := by
        rw [Int.toNat_natCast, hget _ (by omega)]; simp [hkj]
      have g2 : b[k0 + Int.toNat ((j - 1 : Nat) : Int)]? = some l[k0 + j - 1] := by
        rw [Int.toNat_natCast, show k0 + (j - 1) = k0 + j - 1 by omega, hget _ (by omega)]
        simp [show k0 + j - 1 < l.length by omega]
      have htk : l.take (k0 + (j + 1)) = l.take (k0 + j) ++ [l[k0 + j]] := by rw [← Nat.add_assoc, List.take_succ_eq_append_getElem hkj]
      have hlast : (l.take (k0 + j)).getLast? = some l[k0 + j - 1] := by
        rw [take_last (by omega) (by omega)]
        simp [show k0 + j - 1 < l.length by omega]
      have hj1 : j - 1 < l.length - k0 := by omega
      have hi0 : i0 < b.length := by omega
      rw [B31_0_eq, lt_in hj, ge_zero, g1, wrap_prev q0 (show j ≤ l.length by omega) (by simp only [big] at hn; omega), lt_in hj1, ge_zero, wrap_next hj (by simp only [big] at hn; omega)]
      simp only [Bool.and_self, cond_true, Option.bind_some, g2, beq_bs]
      show ∃ b', (bif !(eqR l[k0 + j] l[k0 + j - 1]) then _ else _) = _ ∧ _
      cases he : eqR l[k0 + j] l[k0 + j - 1] with
      | true =>
        refine ⟨(i0, b), rfl, by omega, by simp only; omega, q2, q3, ?_⟩
        rw [htk, compactOf_snoc, hlast, if_pos (by rw [eqR_iff.1 he])]
        exact q4
      | false =>
        have hne : l[k0 + j - 1] ≠ l[k0 + j] := fun e => by rw [eqR_iff.2 e.symm] at he; cases he
        simp only [Bool.not_false, cond_true]
        rw [lt_both hi0, at_in hi0, wrap_next hi0 (by simp only [big] at hn; omega)]
        refine ⟨(i0 + 1, b.set i0 l[k0 + j]), rfl, by omega, by simp only; omega, by simp [q2], ?_, ?_⟩
        · simp only
          rw [List.drop_set_of_lt (by omega)]
          have := congrArg (List.drop 1) q3
          simpa [List.drop_drop] using this
        · simp only
          rw [htk, compactOf_snoc, hlast, if_neg (by simpa using hne), ← q4, List.take_succ_eq_append_getElem (by simpa using hi0), List.take_set_of_le (Nat.le_refl _)]
          simp) (by
      rintro ⟨i0, b⟩ ⟨q0, q1, q2, q3, q4⟩
      rw [B31_0_eq, lt_out]
      rfl) 1 (k0, l) (by omega) ⟨Nat.le_refl _, by simp, rfl, rfl, by
        simp only
        rw [List.take_succ_eq_append_getElem hk, compactOf_snoc, take_last h1 (by omega), if_pos (by rw [heq]; simp [show k0 - 1 < l.length by omega]), hc]⟩
  obtain ⟨q0, q1, q2, q3, q4⟩ := h5
  simp only at q1 q2 q3 q4
  refine ⟨k', b, h4, by omega, q2, ?_⟩
  rw [q4, show k0 + (l.length - k0) = l.length by omega, List.take_length]
theorem F31_is (l : List Req) (hn : l.length ≤ big) : ∃ l', F31 (l, ()) = some (compactOf l, l', ()) := by
  rw [F31_eq]
  by_cases h2 : l.length < 2
  · rw [show decide (Int.ofNat l.length < Int.ofNat 2) = true by simp; omega]
    match l, h2 with
    | [], _ => exact ⟨[], rfl⟩
    | [x], _ => exact ⟨[x], rfl⟩
    | _ :: _ :: _, h2 => simp at h2; omega
  · rw [show decide (Int.ofNat l.length < Int.ofNat 2) = false by simp; omega, cond_false]
    obtain ⟨e, h1, h3⟩ := loop_inv (B := B31_1) (fun p => ∃ k : Nat, 1 ≤ k ∧ k ≤ l.length ∧ compactOf (l.take k) = l.take k ∧ p = ((k : Int), l, ())) (fun p => (Int.ofNat l.length - p.1).toNat)
      (fun e => (e = .inr (l, ()) ∧ compactOf l = l) ∨ ∃ k' b, e = .inl (0, k', b, ()) ∧ b.take k' = compactOf l) (by
        rintro p ⟨k, hk1, hk2, hc, rfl⟩
        rw [B31_1_eq]
        by_cases hlt : k < l.length
        · have hk1' : k - 1 < l.length := by omega
          rw [lt_in hlt, ge_zero, at_in hlt, wrap_prev hk1 (show k ≤ l.length by omega) (by simp only [big] at hn; omega), lt_in hk1', ge_zero, at_in hk1', wrap_next hlt (by simp only [big] at hn; omega)]
          simp only [Bool.and_self, cond_true, Option.bind_some, beq_bs]
          have htk : l.take (k + 1) = l.take k ++ [l[k]] := by rw [List.take_succ_eq_append_getElem hlt]
          have hlast : (l.take k).getLast? = some l[k - 1] := by rw [take_last hk1 (by omega)]; simp [hk1']
          show (∃ q, (bif eqR l[k] l[k - 1] then _ else _) = _ ∧ _) ∨ ∃ e, (bif eqR l[k] l[k - 1] then _ else _) = _ ∧ _
          cases he : eqR l[k] l[k - 1] with
          | false =>
            have hne : l[k - 1] ≠ l[k] := fun e => by rw [eqR_iff.2 e.symm] at he; cases he
            refine .inl ⟨_, rfl, ⟨k + 1, by omega, hlt, ?_, rfl⟩, ?_⟩
            · rw [htk, compactOf_snoc, hlast, if_neg (by simpa using hne), hc]
            · simp; omega
          | true =>
            refine .inr ?_
            simp only [cond_true]
            have e1 : (true && (decide ((k : Int) ≤ Int.ofNat l.length) && decide (Int.ofNat l.length ≤ Int.ofNat l.length))) = true := by
              simp; exact hk2
            rw [e1, cond_true]
            obtain ⟨k', b, h4, h5, h6, h7⟩ := compact_in l k hk1 hlt hn (eqR_iff.1 he) hc
            rw [show 0 + Int.toNat (k : Int) = k by simp, show 0 + Int.toNat (Int.ofNat l.length) = l.length by simp, show (Int.ofNat 1 : Int) = ((1 : Nat) : Int) from rfl, h4, Option.bind_some]
            have hle : k' ≤ b.length := by omega
            have e2 : ∀ (z : Req), (b.take (0 + Int.toNat (k' : Int)) ++ List.replicate (0 + Int.toNat (Int.ofNat b.length) - (0 + Int.toNat (k' : Int))) z ++ b.drop (0 + Int.toNat (k' : Int) + (0 + Int.toNat (Int.ofNat b.length) - (0 + Int.toNat (k' : Int))))).length = b.length := by
              intro z; simp; omega
            have e4 : (decide (Int.ofNat 0 ≤ (k' : Int)) && (decide ((k' : Int) ≤ Int.ofNat b.length) && decide (Int.ofNat b.length ≤ Int.ofNat b.length))) = true := by
              simp; exact hle
            simp only
            rw [e4, cond_true, e2, e4, cond_true]
            refine ⟨_, rfl, .inr ⟨_, _, rfl, ?_⟩⟩
            rw [← h7]
            simp [hle]
        · have : k = l.length := by omega
          subst this
          rw [lt_out]
          refine .inr ⟨_, rfl, .inl ⟨rfl, ?_⟩⟩
          rwa [List.take_length] at hc) (Int.ofNat 1, l, ()) ⟨1, Nat.le_refl _, by omega, by
          cases l with
          | nil => rfl
          | cons x l => simp [compactOf], rfl⟩
    rw [h1, Option.bind_some]
    rcases h3 with ⟨rfl, h4⟩ | ⟨k', b, rfl, h4⟩
    · exact ⟨l, by rw [h4]; rfl⟩
    · refine ⟨b, ?_⟩
      show some (List.drop 0 (List.take k' b), b, ()) = _
      rw [h4]
      rfl
theorem F30_is (l : List Req) : F30 (l, ()) = some (l, ()) := by
  rw [F30_eq]
  have e1 : (decide (Int.ofNat 0 ≤ Int.ofNat l.length) && (decide (Int.ofNat l.length ≤ Int.ofNat l.length) && decide (Int.ofNat l.length ≤ Int.ofNat l.length))) = true := by simp
  rw [e1, cond_true]
  simp
section
variable (md : ByteArray) (rq ex : List Req) (sw : List Swp) (w : List Mod) (rv : List Rev)
theorem maxV_mem : ∀ (l : List Ver), l ≠ [] → maxV l ∈ l
  | [], h => absurd rfl h
  | v :: l, _ => by
    have key : ∀ (l : List Ver) (m : Ver), (l.foldl (fun m x => if cmpV x m > 0 then x else m) m) = m ∨ (l.foldl (fun m x => if cmpV x m > 0 then x else m) m) ∈ l := by
      intro l
      induction l with
      | nil => intro m; exact .inl rfl
      | cons x l ih =>
        intro m
        rw [List.foldl_cons]
        split
        · rcases ih x with h | h
          · exact .inr (by rw [h]; simp)
          · exact .inr (List.mem_cons_of_mem _ h)
        · rcases ih m with h | h
          · exact .inl h
          · exact .inr (List.mem_cons_of_mem _ h)
    rcases key l v with h | h
    · exact List.mem_cons.2 (.inl h)
    · exact List.mem_cons_of_mem _ h
theorem saidOf_path (r q : Req) (h : (saidOf md ex sw w r).2 = some q) : q.1 = r.1 ∧ (q = r ∨ q.2 ∈ versOf w r.1) := by
  unfold saidOf at h
  split at h
  · injection h with h; subst h; exact ⟨rfl, .inl rfl⟩
  · split at h
    · cases h
    · split at h
      · split at h
        · cases h
        · rename_i h4
          injection h with h
          subst h
          exact ⟨rfl, .inr (List.mem_filter.1 (maxV_mem _ h4)).1⟩
      · split at h
        · injection h with h; subst h; exact ⟨rfl, .inl rfl⟩
        · cases h
theorem saidOf_ok (h : okS ex sw w) (r q : Req) (hr : okR r = true) (hq : (saidOf md ex sw w r).2 = some q) : okR q = true := by
  obtain ⟨h1, h2 | h2⟩ := saidOf_path md ex sw w r q hq
  · rw [h2]; exact hr
  · have hv := (versOf_ok (p := r.1) h.hw h.vers).2 _ h2
    unfold okR at hr ⊢
    rw [h1, hv]
    simp only [Bool.and_eq_true] at hr
    rw [hr.1]; rfl
theorem allOf_mem : ∀ (l : List Req) (q : Req), q ∈ (allOf md ex sw w l).2 → ∃ r ∈ l, (saidOf md ex sw w r).2 = some q
  | [], q, h => by simp [allOf] at h
  | r :: l, q, h => by
    simp only [allOf] at h
    split at h
    · split at h
      · rcases List.mem_append.1 h with h | h
        · exact ⟨r, by simp, by simpa using h⟩
        · obtain ⟨r', h1, h2⟩ := allOf_mem l q h
          exact ⟨r', List.mem_cons_of_mem _ h1, h2⟩
      · simp at h
    · simp at h
theorem allOf_len : ∀ (l : List Req), (allOf md ex sw w l).2.length ≤ l.length
  | [] => by simp [allOf]
  | r :: l => by
    have := allOf_len l
    have h1 : (saidOf md ex sw w r).2.toList.length ≤ 1 := by cases (saidOf md ex sw w r).2 <;> simp
    simp only [allOf]
    split
    · split
      · simp; omega
      · simp
    · simp
theorem allOf_ok (h : okS ex sw w) (l : List Req) (hl : ∀ r ∈ l, okR r = true) : ∀ q ∈ (allOf md ex sw w l).2, okR q = true := fun q hq => by
  obtain ⟨r, h1, h2⟩ := allOf_mem md ex sw w l q hq
  exact saidOf_ok md ex sw w h r q (hl r h1) h2
theorem F24_is (l : List Req) (hl : ∀ r ∈ l, okR r = true) (hn : l.length ≤ big) : F24 (l, ()) = some (sortBy cmpR l, ()) := by
  unfold F24 FSort
  have : (l.all okR && decide (l.length < 4611686018427387904)) = true := by
    rw [Bool.and_eq_true, List.all_eq_true, decide_eq_true_eq]
    exact ⟨hl, by simp only [big] at hn; omega⟩
  show (bif l.all okR && decide (l.length < 4611686018427387904) then _ else _) = _
  rw [this]
  rfl
theorem sortBy_perm (l : List Req) : (sortBy cmpR l).Perm l := by
  cases l with
  | nil => exact .refl _
  | cons x l =>
    unfold sortBy
    have hp := pdq_range (swo_at lin_cmpR.swo fun i => (x :: l).getD i x) (x :: l).length
    refine (hp.map _).trans ?_
    have : (List.range (x :: l).length).map (fun i => (x :: l).getD i x) = x :: l := by
      apply List.ext_getElem
      · simp
      · intro i h1 h2
        simp only [List.getElem_map, List.getElem_range]
        rw [List.getD_eq_getElem?_getD, List.getElem?_eq_getElem h2]
        rfl
    rw [this]
theorem rel_ok (h : okS ex sw w) {p : ByteArray} {v : Ver} {y : Rel} (hy : relOf w p v = some y) : y.reqs.length ≤ big ∧ ∀ q ∈ y.reqs, okR q = true := by
  have h1 : y ∈ relsOf w p := List.mem_of_find?_eq_some hy
  refine ⟨(relsOf_len h.hw).2 y h1, ?_⟩
  unfold relsOf at h1
  cases hm : modOf w p with
  | none => rw [hm] at h1; simp at h1
  | some m =>
    rw [hm] at h1
    exact h.reqs m (modOf_mem hm) y h1
theorem okR_ver {r : Req} (h : okR r = true) : okV r.2 = true := by
  unfold okR at h
  simp only [Bool.and_eq_true] at h
  exact h.2
theorem asks_end (h : okS ex sw w) (x : Req) : (Option.bind (F29 (w, rv, x.1, x.2.1, x.2.2.1, x.2.2.2.1, x.2.2.2.2.1, ()))
        fun
          (r :
            Int ×
              Int ×
                Int ×
                  ByteArray ×
                    List (ByteArray × Int × Int × Int × ByteArray × Unit) × ByteArray × ByteArray × Bool × Unit) =>
        bif !r.2.2.2.2.2.2.2.1 then some ([], Int.ofNat 9, ())
        else
          Option.bind (F23 (md, rq, ex, sw, w, rv, r.2.2.2.2.1, ()))
            fun (r : Int × List (ByteArray × Int × Int × Int × ByteArray × Unit) × Unit) =>
            bif !r.1 == Int.ofNat 0 then some ([], r.1, ())
            else
              Option.bind (F24 (r.2.1, ()))
                fun (r : List (ByteArray × Int × Int × Int × ByteArray × Unit) × Unit) =>
                Option.bind (F31 (r.1, ()))
                  fun
                    (r :
                      List (ByteArray × Int × Int × Int × ByteArray × Unit) ×
                        List (ByteArray × Int × Int × Int × ByteArray × Unit) × Unit) =>
                  Option.bind (F30 (r.1, ()))
                    fun (r : List (ByteArray × Int × Int × Int × ByteArray × Unit) × Unit) =>
                    some (r.1, Int.ofNat 0, ())) =
    some (match relOf w x.1 x.2 with
      | none => ([], 9, ())
      | some y => if (allOf md ex sw w y.reqs).1 = 0 then (compactOf (sortBy cmpR (allOf md ex sw w y.reqs).2), 0, ()) else ([], (allOf md ex sw w y.reqs).1, ())) := by
  rw [F29_is w rv x.1 x.2 h.hw, Option.bind_some]
  cases hy : relOf w x.1 x.2 with
  | none => rfl
  | some y =>
    obtain ⟨hlen, hok⟩ := rel_ok ex sw w h hy
    simp only [Option.elim_some, Bool.not_true, cond_false]
    have h53 := F23_is md rq ex sw w rv y.reqs (fun r hr => okR_ver (hok r hr)) hlen h
    have h53' : F23 (md, rq, ex, sw, w, rv, y.2.2.2.2.1, ()) = some ((allOf md ex sw w y.reqs).1, (allOf md ex sw w y.reqs).2, ()) := h53
    rw [h53', Option.bind_some]
    simp only
    by_cases h0 : (allOf md ex sw w y.reqs).1 = 0
    · have hl2 : (allOf md ex sw w y.reqs).2.length ≤ big := Nat.le_trans (allOf_len md ex sw w _) hlen
      rw [if_pos h0, show (!(allOf md ex sw w y.reqs).1 == Int.ofNat 0) = false by rw [h0]; rfl, cond_false]
      rw [F24_is _ (allOf_ok md ex sw w h _ hok) hl2, Option.bind_some]
      obtain ⟨l', h71⟩ := F31_is (sortBy cmpR (allOf md ex sw w y.reqs).2) (by rw [(sortBy_perm _).length_eq]; exact hl2)
      simp only
      rw [h71, Option.bind_some, F30_is]
      rfl
    · have hb : (!(allOf md ex sw w y.reqs).1 == Int.ofNat 0) = true := by
        rw [Bool.not_eq_true', ← Bool.not_eq_true]
        intro e; exact h0 (by simpa using e)
      rw [if_neg h0, hb]
      rfl
theorem F20_is (h : okS ex sw w) (r : Req) : F20 (md, rq, ex, sw, w, rv, r.1, r.2.1, r.2.2.1, r.2.2.2.1, r.2.2.2.2.1, ()) = some ((asksOf md ex sw w r).2, (asksOf md ex sw w r).1, ()) := by
  rw [F20_eq, F28_is md rq ex sw w rv r.1 h.hsw, Option.bind_some]
  unfold asksOf standsFor
  cases hsw : swapOf sw r.1 with
  | some y =>
    simp only [Option.elim_some, cond_true]
    rw [asks_end md rq ex sw w rv h y.2]
    split
    · rfl
    · split <;> rfl
  | none =>
    simp only [Option.elim_none, cond_false]
    rw [asks_end md rq ex sw w rv h r]
    split
    · rfl
    · split <;> rfl
end
end Go.Vx.Z
