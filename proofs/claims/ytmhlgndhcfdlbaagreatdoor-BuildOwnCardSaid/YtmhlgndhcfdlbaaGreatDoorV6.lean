import Derived.Test.YtmhlgndhcfdlbaaGreatDoorV5
import Derived.Test.YtmhlgndhcfdlbaaGreatDoorV4
set_option linter.unusedSimpArgs false
namespace Go.Vx.Z
open Go Go.Vx Go.Proofs
set_option linter.unusedVariables false
set_option maxRecDepth 1000000
set_option maxHeartbeats 4000000
theorem F67o_eq (x0 : List (Ty.D r6)) : F67o (x0, ()) =
  bif
      match x0 with
      | [] => true
      | head :: tail => false then
    both (some ([], ()))
      (bif decide (0 + List.length x0 ≤ 1256584717458) then some ([] ++ x0, ()) else none)
  else bif decide (0 + List.length x0 ≤ 1256584717458) then some ([] ++ x0, ()) else none := by kernel_rfl
theorem B45o_0_eq (x0 x1 : Int) (x2 : List (Ty.D r0)) (x3 : ByteArray) (x4 x5 : List (Ty.D r0)) (x6 : List (Ty.D r4)) (x7 : List (Ty.D r2)) (x8 : List (Ty.D r3)) (x9 : List (Ty.D r6)) : B45o_0 (x0, x1, x2, x3, x4, x5, x6, x7, x8, x9, ()) =
  bif decide (x1 < x0) then
    bif decide (Int.ofNat 0 ≤ x1) && decide (x1 < Int.ofNat (List.length x2)) then
      Option.bind x2[Int.toNat x1]? fun (y : ByteArray × Int × Int × Int × ByteArray × Unit) =>
        bif decide (IntKind.wrap IntKind.i64 (x1 + Int.ofNat 1) < Int.ofNat (List.length x2)) then
          bif
              decide (Int.ofNat 0 ≤ IntKind.wrap IntKind.i64 (x1 + Int.ofNat 1)) &&
                decide (IntKind.wrap IntKind.i64 (x1 + Int.ofNat 1) < Int.ofNat (List.length x2)) then
            Option.bind x2[Int.toNat (IntKind.wrap IntKind.i64 (x1 + Int.ofNat 1))]?
              fun (y_1 : ByteArray × Int × Int × Int × ByteArray × Unit) =>
              bif ByteArray.toList y_1.1 == ByteArray.toList y.1 then
                some
                  (Sum.inl
                    (x0, IntKind.wrap IntKind.i64 (x1 + Int.ofNat 1), x2, x3, x4, x5, x6, x7, x8, x9, ()))
              else
                Option.bind (F66 (x3, x4, x5, x6, x7, x8, y.1, ()))
                  fun (r : ByteArray × ByteArray × Int × Int × Int × ByteArray × Bool × Unit) =>
                  bif
                      decide
                        (List.length x9 +
                            List.length
                              [(y.1, y.2.1, y.2.2.1, y.2.2.2.1, y.2.2.2.2.1, r.2.1, r.2.2.1, r.2.2.2.1, r.2.2.2.2.1,
                                  r.2.2.2.2.2.1, ())] ≤
                          1256584717458) then
                    some
                      (Sum.inl
                        (x0, IntKind.wrap IntKind.i64 (x1 + Int.ofNat 1), x2, x3, x4, x5, x6, x7, x8,
                          x9 ++
                            [(y.1, y.2.1, y.2.2.1, y.2.2.2.1, y.2.2.2.2.1, r.2.1, r.2.2.1, r.2.2.2.1, r.2.2.2.2.1,
                                r.2.2.2.2.2.1, ())],
                          ()))
                  else none
          else none
        else
          Option.bind (F66 (x3, x4, x5, x6, x7, x8, y.1, ()))
            fun (r : ByteArray × ByteArray × Int × Int × Int × ByteArray × Bool × Unit) =>
            bif
                decide
                  (List.length x9 +
                      List.length
                        [(y.1, y.2.1, y.2.2.1, y.2.2.2.1, y.2.2.2.2.1, r.2.1, r.2.2.1, r.2.2.2.1, r.2.2.2.2.1,
                            r.2.2.2.2.2.1, ())] ≤
                    1256584717458) then
              some
                (Sum.inl
                  (x0, IntKind.wrap IntKind.i64 (x1 + Int.ofNat 1), x2, x3, x4, x5, x6, x7, x8,
                    x9 ++
                      [(y.1, y.2.1, y.2.2.1, y.2.2.2.1, y.2.2.2.2.1, r.2.1, r.2.2.1, r.2.2.2.1, r.2.2.2.2.1,
                          r.2.2.2.2.2.1, ())],
                    ()))
            else none
    else none
  else some (Sum.inr (x9, ())) := by kernel_rfl
theorem F45o_eq (x0 : ByteArray) (x1 x2 : List (Ty.D r0)) (x3 : List (Ty.D r4)) (x4 : List (Ty.D r2)) (x5 : List (Ty.D r3)) (x6 : List (Ty.D r0)) : F45o (x0, x1, x2, x3, x4, x5, x6, ()) =
  Option.bind (F65 (x6, ())) fun (r : List (ByteArray × Int × Int × Int × ByteArray × Unit) × Unit) =>
    Option.bind (F64 (r.1, ()))
      fun
        (r :
          List (ByteArray × Int × Int × Int × ByteArray × Unit) ×
            List (ByteArray × Int × Int × Int × ByteArray × Unit) × Unit) =>
      Option.bind
        (loop B45o_0 (Int.ofNat (List.length r.2.1), Int.ofNat 0, r.2.1, x0, x1, x2, x3, x4, x5, [], ()))
        fun
          (r :
            List (ByteArray × Int × Int × Int × ByteArray × ByteArray × Int × Int × Int × ByteArray × Unit) × Unit) =>
        Option.bind (F67o (r.1, ()))
          fun
            (r :
              List (ByteArray × Int × Int × Int × ByteArray × ByteArray × Int × Int × Int × ByteArray × Unit) ×
                Unit) =>
          some (r.1, ()) := by kernel_rfl
theorem F19o_eq (x0 : List (Ty.D r2)) (x1 : List (Ty.D r3)) (x2 : ByteArray) (x3 x4 : List (Ty.D r0)) (x5 : List (Ty.D r4)) : F19o (x0, x1, x2, x3, x4, x5, ()) =
  Option.bind (F43 (x0, x1, x2, x3, x4, x5, ()))
    fun
      (r :
        ByteArray ×
          List (ByteArray × Int × Int × Int × ByteArray × Unit) ×
            List (ByteArray × Int × Int × Int × ByteArray × Unit) ×
              List (ByteArray × ByteArray × Int × Int × Int × ByteArray × Unit) ×
                List
                    (ByteArray ×
                      List
                          (Int ×
                            Int ×
                              Int ×
                                ByteArray ×
                                  List (ByteArray × Int × Int × Int × ByteArray × Unit) ×
                                    ByteArray × ByteArray × Unit) ×
                        Unit) ×
                  List (ByteArray × ByteArray × Bool × Bool × Int × Int × Int × ByteArray × Int × Unit) × Unit) =>
    Option.bind (F44 (r.1, r.2.1, r.2.2.1, r.2.2.2.1, r.2.2.2.2.1, r.2.2.2.2.2.1, ()))
      fun (r_1 : List (ByteArray × Int × Int × Int × ByteArray × Unit) × Int × Unit) =>
      bif !r_1.2.1 == Int.ofNat 0 then some (r_1.2.1, [], ())
      else
        Option.bind (F45o (r.1, r.2.1, r.2.2.1, r.2.2.2.1, r.2.2.2.2.1, r.2.2.2.2.2.1, r_1.1, ()))
          fun
            (r :
              List (ByteArray × Int × Int × Int × ByteArray × ByteArray × Int × Int × Int × ByteArray × Unit) ×
                Unit) =>
          some (Int.ofNat 0, r.1, ()) := by kernel_rfl
theorem B23o_0_eq (x0 : List (Ty.D r6)) (x1 : Int) (x2 : List (Ty.D r6)) : B23o_0 (x0, x1, x2, ()) =
  bif decide (x1 < Int.ofNat (List.length x2)) then
    bif decide (Int.ofNat 0 ≤ x1) && decide (x1 < Int.ofNat (List.length x2)) then
      Option.bind x2[Int.toNat x1]?
        fun (y : ByteArray × Int × Int × Int × ByteArray × ByteArray × Int × Int × Int × ByteArray × Unit) =>
        bif decide (Int.ofNat 0 ≤ x1) then
          Option.bind x0[Int.toNat x1]?
            fun (y_1 : ByteArray × Int × Int × Int × ByteArray × ByteArray × Int × Int × Int × ByteArray × Unit) =>
            bif
                !(ByteArray.toList y.1 == ByteArray.toList y_1.1 &&
                    (y.2.1 == y_1.2.1 &&
                        (y.2.2.1 == y_1.2.2.1 &&
                          (y.2.2.2.1 == y_1.2.2.2.1 &&
                            ByteArray.toList y.2.2.2.2.1 == ByteArray.toList y_1.2.2.2.2.1)) &&
                      (ByteArray.toList y.2.2.2.2.2.1 == ByteArray.toList y_1.2.2.2.2.2.1 &&
                        (y.2.2.2.2.2.2.1 == y_1.2.2.2.2.2.2.1 &&
                          (y.2.2.2.2.2.2.2.1 == y_1.2.2.2.2.2.2.2.1 &&
                            (y.2.2.2.2.2.2.2.2.1 == y_1.2.2.2.2.2.2.2.2.1 &&
                              ByteArray.toList y.2.2.2.2.2.2.2.2.2.1 ==
                                ByteArray.toList y_1.2.2.2.2.2.2.2.2.2.1)))))) then
              some (Sum.inr (Sum.inl (false, x2, ())))
            else some (Sum.inl (x0, IntKind.wrap IntKind.i64 (x1 + Int.ofNat 1), x2, ()))
        else none
    else none
  else some (Sum.inr (Sum.inr (x2, ()))) := by kernel_rfl
theorem F23o_eq (x0 x1 : List (Ty.D r6)) : F23o (x0, x1, ()) =
  bif !Int.ofNat (List.length x1) == Int.ofNat (List.length x0) then some (false, x1, ())
  else
    Option.bind (loop B23o_0 (x0, Int.ofNat 0, x1, ()))
      fun
        (r :
          Bool ×
              List (ByteArray × Int × Int × Int × ByteArray × ByteArray × Int × Int × Int × ByteArray × Unit) × Unit ⊕
            List (ByteArray × Int × Int × Int × ByteArray × ByteArray × Int × Int × Int × ByteArray × Unit) × Unit) =>
      Sum.elim
        (fun
            (p :
              Bool ×
                List (ByteArray × Int × Int × Int × ByteArray × ByteArray × Int × Int × Int × ByteArray × Unit) ×
                  Unit) =>
          some (p.1, p.2.1, ()))
        (fun
            (p :
              List (ByteArray × Int × Int × Int × ByteArray × ByteArray × Int × Int × Int × ByteArray × Unit) ×
                Unit) =>
          some (true, p.1, ()))
        r := by kernel_rfl
theorem F70o_eq (x0 x1 : Nat) (x2 : List (Ty.D r0)) : F70o (x0, x1, x2, ()) =
  bif
      decide (Int.ofNat 0 ≤ Int.ofNat (x1 - x0)) &&
        (decide (Int.ofNat (x1 - x0) ≤ Int.ofNat (x1 - x0)) && decide (Int.ofNat (x1 - x0) ≤ Int.ofNat (x1 - x0))) then
    some (x0 + 0, x0 + Int.toNat (Int.ofNat (x1 - x0)), x2, ())
  else none := by kernel_rfl
theorem B71o_0_eq (x0 : Int) (x1 x2 : Nat) (x3 : Int) (x4 : List (Ty.D r0)) : B71o_0 (x0, x1, x2, x3, x4, ()) =
  bif decide (x3 < Int.ofNat (x2 - x1)) then
    bif decide (Int.ofNat 0 ≤ x3) && decide (x3 < Int.ofNat (x2 - x1)) then
      Option.bind x4[x1 + Int.toNat x3]? fun (y : ByteArray × Int × Int × Int × ByteArray × Unit) =>
        bif
            decide (Int.ofNat 0 ≤ IntKind.wrap IntKind.i64 (x3 - Int.ofNat 1)) &&
              decide (IntKind.wrap IntKind.i64 (x3 - Int.ofNat 1) < Int.ofNat (x2 - x1)) then
          Option.bind x4[x1 + Int.toNat (IntKind.wrap IntKind.i64 (x3 - Int.ofNat 1))]?
            fun (y_1 : ByteArray × Int × Int × Int × ByteArray × Unit) =>
            bif
                !(ByteArray.toList y.1 == ByteArray.toList y_1.1 &&
                    (y.2.1 == y_1.2.1 &&
                      (y.2.2.1 == y_1.2.2.1 &&
                        (y.2.2.2.1 == y_1.2.2.2.1 &&
                          ByteArray.toList y.2.2.2.2.1 == ByteArray.toList y_1.2.2.2.2.1)))) then
              bif decide (Int.ofNat 0 ≤ x3) && decide (x3 < Int.ofNat (x2 - x1)) then
                Option.bind x4[x1 + Int.toNat x3]? fun (y : ByteArray × Int × Int × Int × ByteArray × Unit) =>
                  bif decide (Int.ofNat 0 ≤ x0) && decide (x0 < Int.ofNat (List.length x4)) then
                    Option.bind x4[Int.toNat x0]? fun (y_2 : ByteArray × Int × Int × Int × ByteArray × Unit) =>
                      some
                        (Sum.inl
                          (IntKind.wrap IntKind.i64 (x0 + Int.ofNat 1), x1, x2,
                            IntKind.wrap IntKind.i64 (x3 + Int.ofNat 1),
                            List.set x4 (Int.toNat x0) (y.1, y.2.1, y.2.2.1, y.2.2.2.1, y.2.2.2.2.1, ()),
                            ()))
                  else none
              else none
            else some (Sum.inl (x0, x1, x2, IntKind.wrap IntKind.i64 (x3 + Int.ofNat 1), x4, ()))
        else none
    else none
  else some (Sum.inr (x0, x4, ())) := by kernel_rfl
theorem B71o_1_eq (x0 : Int) (x1 : List (Ty.D r0)) : B71o_1 (x0, x1, ()) =
  bif decide (x0 < Int.ofNat (List.length x1)) then
    bif decide (Int.ofNat 0 ≤ x0) && decide (x0 < Int.ofNat (List.length x1)) then
      Option.bind x1[Int.toNat x0]? fun (y : ByteArray × Int × Int × Int × ByteArray × Unit) =>
        bif
            decide (Int.ofNat 0 ≤ IntKind.wrap IntKind.i64 (x0 - Int.ofNat 1)) &&
              decide (IntKind.wrap IntKind.i64 (x0 - Int.ofNat 1) < Int.ofNat (List.length x1)) then
          Option.bind x1[Int.toNat (IntKind.wrap IntKind.i64 (x0 - Int.ofNat 1))]?
            fun (y_1 : ByteArray × Int × Int × Int × ByteArray × Unit) =>
            bif
                ByteArray.toList y.1 == ByteArray.toList y_1.1 &&
                  (y.2.1 == y_1.2.1 &&
                    (y.2.2.1 == y_1.2.2.1 &&
                      (y.2.2.2.1 == y_1.2.2.2.1 &&
                        ByteArray.toList y.2.2.2.2.1 == ByteArray.toList y_1.2.2.2.2.1))) then
              bif
                  decide (Int.ofNat 0 ≤ x0) &&
                    (decide (x0 ≤ Int.ofNat (List.length x1)) &&
                      (decide (Int.ofNat (List.length x1) ≤ Int.ofNat (List.length x1)) &&
                        decide (Int.ofNat (List.length x1) ≤ Int.ofNat (List.length x1)))) then
                Option.bind
                  (loop B71o_0
                    (x0, 0 + Int.toNat x0, 0 + Int.toNat (Int.ofNat (List.length x1)), Int.ofNat 1, x1, ()))
                  fun (r : Int × List (ByteArray × Int × Int × Int × ByteArray × Unit) × Unit) =>
                  bif
                      decide (Int.ofNat 0 ≤ r.1) &&
                        (decide (r.1 ≤ Int.ofNat (List.length r.2.1)) &&
                          (decide (Int.ofNat (List.length r.2.1) ≤ Int.ofNat (List.length r.2.1)) &&
                            decide (Int.ofNat (List.length r.2.1) ≤ Int.ofNat (List.length r.2.1)))) then
                    bif
                        decide (Int.ofNat 0 ≤ r.1) &&
                          (decide
                              (r.1 ≤
                                Int.ofNat
                                  (List.length
                                    (List.take (0 + Int.toNat r.1) r.2.1 ++
                                        List.replicate
                                          (0 + Int.toNat (Int.ofNat (List.length r.2.1)) - (0 + Int.toNat r.1))
                                          ((lit []), Int.ofNat 0, Int.ofNat 0, Int.ofNat 0,
                                            (lit []), ()) ++
                                      List.drop
                                        (0 + Int.toNat r.1 +
                                          (0 + Int.toNat (Int.ofNat (List.length r.2.1)) - (0 + Int.toNat r.1)))
                                        r.2.1))) &&
                            decide
                              (Int.ofNat
                                  (List.length
                                    (List.take (0 + Int.toNat r.1) r.2.1 ++
                                        List.replicate
                                          (0 + Int.toNat (Int.ofNat (List.length r.2.1)) - (0 + Int.toNat r.1))
                                          ((lit []), Int.ofNat 0, Int.ofNat 0, Int.ofNat 0,
                                            (lit []), ()) ++
                                      List.drop
                                        (0 + Int.toNat r.1 +
                                          (0 + Int.toNat (Int.ofNat (List.length r.2.1)) - (0 + Int.toNat r.1)))
                                        r.2.1)) ≤
                                Int.ofNat
                                  (List.length
                                    (List.take (0 + Int.toNat r.1) r.2.1 ++
                                        List.replicate
                                          (0 + Int.toNat (Int.ofNat (List.length r.2.1)) - (0 + Int.toNat r.1))
                                          ((lit []), Int.ofNat 0, Int.ofNat 0, Int.ofNat 0,
                                            (lit []), ()) ++
                                      List.drop
                                        (0 + Int.toNat r.1 +
                                          (0 + Int.toNat (Int.ofNat (List.length r.2.1)) - (0 + Int.toNat r.1)))
                                        r.2.1)))) then
                      some
                        (Sum.inr
                          (Sum.inl
                            (0, 0 + Int.toNat r.1,
                              List.take (0 + Int.toNat r.1) r.2.1 ++
                                  List.replicate (0 + Int.toNat (Int.ofNat (List.length r.2.1)) - (0 + Int.toNat r.1))
                                    ((lit []), Int.ofNat 0, Int.ofNat 0, Int.ofNat 0,
                                      (lit []), ()) ++
                                List.drop
                                  (0 + Int.toNat r.1 +
                                    (0 + Int.toNat (Int.ofNat (List.length r.2.1)) - (0 + Int.toNat r.1)))
                                  r.2.1,
                              ())))
                    else none
                  else none
              else none
            else some (Sum.inl (IntKind.wrap IntKind.i64 (x0 + Int.ofNat 1), x1, ()))
        else none
    else none
  else some (Sum.inr (Sum.inr (x1, ()))) := by kernel_rfl
theorem F71o_eq (x0 : List (Ty.D r0)) : F71o (x0, ()) =
  bif decide (Int.ofNat (List.length x0) < Int.ofNat 2) then some (0, List.length x0, x0, ())
  else
    Option.bind (loop B71o_1 (Int.ofNat 1, x0, ()))
      fun
        (r :
          Nat × Nat × List (ByteArray × Int × Int × Int × ByteArray × Unit) × Unit ⊕
            List (ByteArray × Int × Int × Int × ByteArray × Unit) × Unit) =>
      Sum.elim
        (fun (p : Nat × Nat × List (ByteArray × Int × Int × Int × ByteArray × Unit) × Unit) =>
          some (p.1, p.2.1, p.2.2.1, ()))
        (fun (p : List (ByteArray × Int × Int × Int × ByteArray × Unit) × Unit) =>
          some (0, List.length p.1, p.1, ()))
        r := by kernel_rfl
theorem F52o_eq (x0 : ByteArray) (x1 x2 : List (Ty.D r0)) (x3 : List (Ty.D r4)) (x4 : List (Ty.D r2)) (x5 : List (Ty.D r3)) (x6 : ByteArray) (x7 x8 x9 : Int) (x10 : ByteArray) : F52o (x0, x1, x2, x3, x4, x5, x6, x7, x8, x9, x10, ()) =
  Option.bind (F66 (x0, x1, x2, x3, x4, x5, x6, ()))
    fun (r : ByteArray × ByteArray × Int × Int × Int × ByteArray × Bool × Unit) =>
    bif r.2.2.2.2.2.2.1 then
      Option.bind (F69 (x4, x5, r.2.1, r.2.2.1, r.2.2.2.1, r.2.2.2.2.1, r.2.2.2.2.2.1, ()))
        fun
          (r :
            Int ×
              Int ×
                Int ×
                  ByteArray ×
                    List (ByteArray × Int × Int × Int × ByteArray × Unit) × ByteArray × ByteArray × Bool × Unit) =>
        bif !r.2.2.2.2.2.2.2.1 then some (0, 0, Int.ofNat 9, [], ())
        else
          Option.bind (F53 (x0, x1, x2, x3, x4, x5, r.2.2.2.2.1, ()))
            fun (r : Int × List (ByteArray × Int × Int × Int × ByteArray × Unit) × Unit) =>
            bif !r.1 == Int.ofNat 0 then some (0, 0, r.1, [], ())
            else
              Option.bind (F54 (r.2.1, ()))
                fun (r : List (ByteArray × Int × Int × Int × ByteArray × Unit) × Unit) =>
                Option.bind (F71o (r.1, ()))
                  fun (r : Nat × Nat × List (ByteArray × Int × Int × Int × ByteArray × Unit) × Unit) =>
                  Option.bind (F70o (r.1, r.2.1, r.2.2.1, ()))
                    fun (r : Nat × Nat × List (ByteArray × Int × Int × Int × ByteArray × Unit) × Unit) =>
                    some (r.1, r.2.1, Int.ofNat 0, r.2.2.1, ())
    else
      Option.bind (F69 (x4, x5, x6, x7, x8, x9, x10, ()))
        fun
          (r :
            Int ×
              Int ×
                Int ×
                  ByteArray ×
                    List (ByteArray × Int × Int × Int × ByteArray × Unit) × ByteArray × ByteArray × Bool × Unit) =>
        bif !r.2.2.2.2.2.2.2.1 then some (0, 0, Int.ofNat 9, [], ())
        else
          Option.bind (F53 (x0, x1, x2, x3, x4, x5, r.2.2.2.2.1, ()))
            fun (r : Int × List (ByteArray × Int × Int × Int × ByteArray × Unit) × Unit) =>
            bif !r.1 == Int.ofNat 0 then some (0, 0, r.1, [], ())
            else
              Option.bind (F54 (r.2.1, ()))
                fun (r : List (ByteArray × Int × Int × Int × ByteArray × Unit) × Unit) =>
                Option.bind (F71o (r.1, ()))
                  fun (r : Nat × Nat × List (ByteArray × Int × Int × Int × ByteArray × Unit) × Unit) =>
                  Option.bind (F70o (r.1, r.2.1, r.2.2.1, ()))
                    fun (r : Nat × Nat × List (ByteArray × Int × Int × Int × ByteArray × Unit) × Unit) =>
                    some (r.1, r.2.1, Int.ofNat 0, r.2.2.1, ()) := by kernel_rfl
theorem F26o_eq (x0 : List (Ty.D r2)) (x1 : List (Ty.D r3)) (x2 : ByteArray) (x3 x4 : List (Ty.D r0)) (x5 : List (Ty.D r4)) (x6 : ByteArray) (x7 x8 x9 : Int) (x10 : ByteArray) : F26o (x0, x1, x2, x3, x4, x5, x6, x7, x8, x9, x10, ()) =
  Option.bind (F43 (x0, x1, x2, x3, x4, x5, ()))
    fun
      (r :
        ByteArray ×
          List (ByteArray × Int × Int × Int × ByteArray × Unit) ×
            List (ByteArray × Int × Int × Int × ByteArray × Unit) ×
              List (ByteArray × ByteArray × Int × Int × Int × ByteArray × Unit) ×
                List
                    (ByteArray ×
                      List
                          (Int ×
                            Int ×
                              Int ×
                                ByteArray ×
                                  List (ByteArray × Int × Int × Int × ByteArray × Unit) ×
                                    ByteArray × ByteArray × Unit) ×
                        Unit) ×
                  List (ByteArray × ByteArray × Bool × Bool × Int × Int × Int × ByteArray × Int × Unit) × Unit) =>
    Option.bind (F52o (r.1, r.2.1, r.2.2.1, r.2.2.2.1, r.2.2.2.2.1, r.2.2.2.2.2.1, x6, x7, x8, x9, x10, ()))
      fun (r : Nat × Nat × Int × List (ByteArray × Int × Int × Int × ByteArray × Unit) × Unit) =>
      some (r.1, r.2.1, r.2.2.1, r.2.2.2.1, ()) := by kernel_rfl
theorem B27_0_eq (x0 x1 : Int) (x2 : List (Ty.D r1)) (x3 : Int) (x4 : List (Ty.D r1)) (x5 : Int) (x6 : Bool) (x7 : List (Ty.D r2)) (x8 : List (Ty.D r3)) (x9 : List (Ty.D r2)) (x10 : List (Ty.D r3)) (x11 : ByteArray) (x12 : List (Ty.D r1)) (x13 : ByteArray) (x14 : List (Ty.D r1)) : B27_0 (x0, x1, x2, x3, x4, x5, x6, x7, x8, x9, x10, x11, x12, x13, x14, ()) =
  bif decide (x1 < Int.ofNat (List.length x12)) then
    bif decide (Int.ofNat 0 ≤ x1) then
      Option.bind x12[Int.toNat x1]?
        fun
          (y :
            Int ×
              Int ×
                Int ×
                  ByteArray × List (ByteArray × Int × Int × Int × ByteArray × Unit) × ByteArray × ByteArray × Unit) =>
        bif decide (Int.ofNat 0 ≤ x1) then
          Option.bind x14[Int.toNat x1]?
            fun
              (y_1 :
                Int ×
                  Int ×
                    Int ×
                      ByteArray ×
                        List (ByteArray × Int × Int × Int × ByteArray × Unit) × ByteArray × ByteArray × Unit) =>
            bif
                !(y.1 == y_1.1 &&
                    (y.2.1 == y_1.2.1 &&
                      (y.2.2.1 == y_1.2.2.1 && ByteArray.toList y.2.2.2.1 == ByteArray.toList y_1.2.2.2.1))) then
              some (Sum.inr (Sum.inl (false, ())))
            else
              bif !ByteArray.toList y.2.2.2.2.2.1 == ByteArray.toList y_1.2.2.2.2.2.1 then
                some (Sum.inr (Sum.inl (false, ())))
              else
                bif !ByteArray.toList y.2.2.2.2.2.2.1 == ByteArray.toList y_1.2.2.2.2.2.2.1 then
                  some (Sum.inr (Sum.inl (false, ())))
                else
                  Option.bind (F32 (y.2.2.2.2.1, y_1.2.2.2.2.1, ())) fun (r : Bool × Unit) =>
                    bif !r.1 then some (Sum.inr (Sum.inl (false, ())))
                    else
                      some
                        (Sum.inl
                          (x0, IntKind.wrap IntKind.i64 (x1 + Int.ofNat 1), x2, x3, x4, x5, x6, x7, x8, x9, x10, x11,
                            x12, x13, x14, ()))
        else none
    else none
  else some (Sum.inr (Sum.inr (x0, x2, x3, x4, x5, x6, x7, x8, x9, x10, x11, x12, x13, x14, ()))) := by kernel_rfl
theorem B27_1_eq (x0 : Int) (x1 : List (Ty.D r2)) (x2 : List (Ty.D r3)) (x3 : List (Ty.D r2)) (x4 : List (Ty.D r3)) : B27_1 (x0, x1, x2, x3, x4, ()) =
  bif decide (x0 < Int.ofNat (List.length x1)) then
    bif decide (Int.ofNat 0 ≤ x0) then
      Option.bind x1[Int.toNat x0]?
        fun
          (y :
            ByteArray ×
              List
                  (Int ×
                    Int ×
                      Int ×
                        ByteArray ×
                          List (ByteArray × Int × Int × Int × ByteArray × Unit) × ByteArray × ByteArray × Unit) ×
                Unit) =>
        bif decide (Int.ofNat 0 ≤ x0) then
          Option.bind x3[Int.toNat x0]?
            fun
              (y_1 :
                ByteArray ×
                  List
                      (Int ×
                        Int ×
                          Int ×
                            ByteArray ×
                              List (ByteArray × Int × Int × Int × ByteArray × Unit) × ByteArray × ByteArray × Unit) ×
                    Unit) =>
            bif !ByteArray.toList y.1 == ByteArray.toList y_1.1 then some (Sum.inr (Sum.inl (false, ())))
            else
              bif !Int.ofNat (List.length y.2.1) == Int.ofNat (List.length y_1.2.1) then
                some (Sum.inr (Sum.inl (false, ())))
              else
                Option.bind
                  (loop B27_0
                    (x0, Int.ofNat 0, y.2.1, Int.ofNat (List.length y.2.1), y_1.2.1, Int.ofNat (List.length y_1.2.1),
                      !Int.ofNat (List.length y.2.1) == Int.ofNat (List.length y_1.2.1), x1, x2, x3, x4, y.1, y.2.1,
                      y_1.1, y_1.2.1, ()))
                  fun
                    (r :
                      Bool × Unit ⊕
                        Int ×
                          List
                              (Int ×
                                Int ×
                                  Int ×
                                    ByteArray ×
                                      List (ByteArray × Int × Int × Int × ByteArray × Unit) ×
                                        ByteArray × ByteArray × Unit) ×
                            Int ×
                              List
                                  (Int ×
                                    Int ×
                                      Int ×
                                        ByteArray ×
                                          List (ByteArray × Int × Int × Int × ByteArray × Unit) ×
                                            ByteArray × ByteArray × Unit) ×
                                Int ×
                                  Bool ×
                                    List
                                        (ByteArray ×
                                          List
                                              (Int ×
                                                Int ×
                                                  Int ×
                                                    ByteArray ×
                                                      List (ByteArray × Int × Int × Int × ByteArray × Unit) ×
                                                        ByteArray × ByteArray × Unit) ×
                                            Unit) ×
                                      List
                                          (ByteArray ×
                                            ByteArray × Bool × Bool × Int × Int × Int × ByteArray × Int × Unit) ×
                                        List
                                            (ByteArray ×
                                              List
                                                  (Int ×
                                                    Int ×
                                                      Int ×
                                                        ByteArray ×
                                                          List (ByteArray × Int × Int × Int × ByteArray × Unit) ×
                                                            ByteArray × ByteArray × Unit) ×
                                                Unit) ×
                                          List
                                              (ByteArray ×
                                                ByteArray × Bool × Bool × Int × Int × Int × ByteArray × Int × Unit) ×
                                            ByteArray ×
                                              List
                                                  (Int ×
                                                    Int ×
                                                      Int ×
                                                        ByteArray ×
                                                          List (ByteArray × Int × Int × Int × ByteArray × Unit) ×
                                                            ByteArray × ByteArray × Unit) ×
                                                ByteArray ×
                                                  List
                                                      (Int ×
                                                        Int ×
                                                          Int ×
                                                            ByteArray ×
                                                              List (ByteArray × Int × Int × Int × ByteArray × Unit) ×
                                                                ByteArray × ByteArray × Unit) ×
                                                    Unit) =>
                  Sum.elim (fun (p : Bool × Unit) => some (Sum.inr (Sum.inl (p.1, ()))))
                    (fun
                        (p :
                          Int ×
                            List
                                (Int ×
                                  Int ×
                                    Int ×
                                      ByteArray ×
                                        List (ByteArray × Int × Int × Int × ByteArray × Unit) ×
                                          ByteArray × ByteArray × Unit) ×
                              Int ×
                                List
                                    (Int ×
                                      Int ×
                                        Int ×
                                          ByteArray ×
                                            List (ByteArray × Int × Int × Int × ByteArray × Unit) ×
                                              ByteArray × ByteArray × Unit) ×
                                  Int ×
                                    Bool ×
                                      List
                                          (ByteArray ×
                                            List
                                                (Int ×
                                                  Int ×
                                                    Int ×
                                                      ByteArray ×
                                                        List (ByteArray × Int × Int × Int × ByteArray × Unit) ×
                                                          ByteArray × ByteArray × Unit) ×
                                              Unit) ×
                                        List
                                            (ByteArray ×
                                              ByteArray × Bool × Bool × Int × Int × Int × ByteArray × Int × Unit) ×
                                          List
                                              (ByteArray ×
                                                List
                                                    (Int ×
                                                      Int ×
                                                        Int ×
                                                          ByteArray ×
                                                            List (ByteArray × Int × Int × Int × ByteArray × Unit) ×
                                                              ByteArray × ByteArray × Unit) ×
                                                  Unit) ×
                                            List
                                                (ByteArray ×
                                                  ByteArray × Bool × Bool × Int × Int × Int × ByteArray × Int × Unit) ×
                                              ByteArray ×
                                                List
                                                    (Int ×
                                                      Int ×
                                                        Int ×
                                                          ByteArray ×
                                                            List (ByteArray × Int × Int × Int × ByteArray × Unit) ×
                                                              ByteArray × ByteArray × Unit) ×
                                                  ByteArray ×
                                                    List
                                                        (Int ×
                                                          Int ×
                                                            Int ×
                                                              ByteArray ×
                                                                List (ByteArray × Int × Int × Int × ByteArray × Unit) ×
                                                                  ByteArray × ByteArray × Unit) ×
                                                      Unit) =>
                      some
                        (Sum.inl
                          (IntKind.wrap IntKind.i64 (p.1 + Int.ofNat 1), p.2.2.2.2.2.2.1, p.2.2.2.2.2.2.2.1,
                            p.2.2.2.2.2.2.2.2.1, p.2.2.2.2.2.2.2.2.2.1, ())))
                    r
        else none
    else none
  else some (Sum.inr (Sum.inr (x1, x2, x3, x4, ()))) := by kernel_rfl
theorem B27_2_eq (x0 : Int) (x1 : List (Ty.D r2)) (x2 : List (Ty.D r3)) (x3 : List (Ty.D r2)) (x4 : List (Ty.D r3)) : B27_2 (x0, x1, x2, x3, x4, ()) =
  bif decide (x0 < Int.ofNat (List.length x2)) then
    bif decide (Int.ofNat 0 ≤ x0) then
      Option.bind x2[Int.toNat x0]?
        fun (y : ByteArray × ByteArray × Bool × Bool × Int × Int × Int × ByteArray × Int × Unit) =>
        bif decide (Int.ofNat 0 ≤ x0) then
          Option.bind x4[Int.toNat x0]?
            fun (y_1 : ByteArray × ByteArray × Bool × Bool × Int × Int × Int × ByteArray × Int × Unit) =>
            bif
                !(ByteArray.toList y.1 == ByteArray.toList y_1.1 &&
                    (ByteArray.toList y.2.1 == ByteArray.toList y_1.2.1 &&
                      (y.2.2.1 == y_1.2.2.1 &&
                        (y.2.2.2.1 == y_1.2.2.2.1 &&
                          (y.2.2.2.2.1 == y_1.2.2.2.2.1 &&
                              (y.2.2.2.2.2.1 == y_1.2.2.2.2.2.1 &&
                                (y.2.2.2.2.2.2.1 == y_1.2.2.2.2.2.2.1 &&
                                  ByteArray.toList y.2.2.2.2.2.2.2.1 == ByteArray.toList y_1.2.2.2.2.2.2.2.1)) &&
                            y.2.2.2.2.2.2.2.2.1 == y_1.2.2.2.2.2.2.2.2.1))))) then
              some (Sum.inr (Sum.inl (false, ())))
            else some (Sum.inl (IntKind.wrap IntKind.i64 (x0 + Int.ofNat 1), x1, x2, x3, x4, ()))
        else none
    else none
  else some (Sum.inr (Sum.inr ())) := by kernel_rfl
theorem F27_eq (x0 : List (Ty.D r2)) (x1 : List (Ty.D r3)) (x2 : List (Ty.D r2)) (x3 : List (Ty.D r3)) : F27 (x0, x1, x2, x3, ()) =
  bif !Int.ofNat (List.length x0) == Int.ofNat (List.length x2) then some (false, ())
  else
    bif !Int.ofNat (List.length x1) == Int.ofNat (List.length x3) then some (false, ())
    else
      Option.bind (loop B27_1 (Int.ofNat 0, x0, x1, x2, x3, ()))
        fun
          (r :
            Bool × Unit ⊕
              List
                  (ByteArray ×
                    List
                        (Int ×
                          Int ×
                            Int ×
                              ByteArray ×
                                List (ByteArray × Int × Int × Int × ByteArray × Unit) ×
                                  ByteArray × ByteArray × Unit) ×
                      Unit) ×
                List (ByteArray × ByteArray × Bool × Bool × Int × Int × Int × ByteArray × Int × Unit) ×
                  List
                      (ByteArray ×
                        List
                            (Int ×
                              Int ×
                                Int ×
                                  ByteArray ×
                                    List (ByteArray × Int × Int × Int × ByteArray × Unit) ×
                                      ByteArray × ByteArray × Unit) ×
                          Unit) ×
                    List (ByteArray × ByteArray × Bool × Bool × Int × Int × Int × ByteArray × Int × Unit) × Unit) =>
        Sum.elim (fun (p : Bool × Unit) => some (p.1, ()))
          (fun
              (p :
                List
                    (ByteArray ×
                      List
                          (Int ×
                            Int ×
                              Int ×
                                ByteArray ×
                                  List (ByteArray × Int × Int × Int × ByteArray × Unit) ×
                                    ByteArray × ByteArray × Unit) ×
                        Unit) ×
                  List (ByteArray × ByteArray × Bool × Bool × Int × Int × Int × ByteArray × Int × Unit) ×
                    List
                        (ByteArray ×
                          List
                              (Int ×
                                Int ×
                                  Int ×
                                    ByteArray ×
                                      List (ByteArray × Int × Int × Int × ByteArray × Unit) ×
                                        ByteArray × ByteArray × Unit) ×
                            Unit) ×
                      List (ByteArray × ByteArray × Bool × Bool × Int × Int × Int × ByteArray × Int × Unit) × Unit) =>
            Option.bind (loop B27_2 (Int.ofNat 0, p.1, p.2.1, p.2.2.1, p.2.2.2.1, ()))
              fun (r : Bool × Unit ⊕ Unit) =>
              Sum.elim (fun (p : Bool × Unit) => some (p.1, ())) (fun (p : Unit) => some (true, ()))
                r)
          r := by kernel_rfl
theorem B28_0_eq (x0 : Int) (x1 : ByteArray) (x2 x3 : List (Ty.D r0)) (x4 : List (Ty.D r4)) (x5 : ByteArray) (x6 x7 : List (Ty.D r0)) (x8 : List (Ty.D r4)) : B28_0 (x0, x1, x2, x3, x4, x5, x6, x7, x8, ()) =
  bif decide (x0 < Int.ofNat (List.length x2)) then
    bif decide (Int.ofNat 0 ≤ x0) then
      Option.bind x2[Int.toNat x0]? fun (y : ByteArray × Int × Int × Int × ByteArray × Unit) =>
        bif decide (Int.ofNat 0 ≤ x0) then
          Option.bind x6[Int.toNat x0]? fun (y_1 : ByteArray × Int × Int × Int × ByteArray × Unit) =>
            bif
                !(ByteArray.toList y.1 == ByteArray.toList y_1.1 &&
                    (y.2.1 == y_1.2.1 &&
                      (y.2.2.1 == y_1.2.2.1 &&
                        (y.2.2.2.1 == y_1.2.2.2.1 &&
                          ByteArray.toList y.2.2.2.2.1 == ByteArray.toList y_1.2.2.2.2.1)))) then
              some (Sum.inr (Sum.inl (false, ())))
            else
              some (Sum.inl (IntKind.wrap IntKind.i64 (x0 + Int.ofNat 1), x1, x2, x3, x4, x5, x6, x7, x8, ()))
        else none
    else none
  else some (Sum.inr (Sum.inr (x1, x2, x3, x4, x5, x6, x7, x8, ()))) := by kernel_rfl
theorem B28_1_eq (x0 : Int) (x1 : ByteArray) (x2 x3 : List (Ty.D r0)) (x4 : List (Ty.D r4)) (x5 : ByteArray) (x6 x7 : List (Ty.D r0)) (x8 : List (Ty.D r4)) : B28_1 (x0, x1, x2, x3, x4, x5, x6, x7, x8, ()) =
  bif decide (x0 < Int.ofNat (List.length x3)) then
    bif decide (Int.ofNat 0 ≤ x0) then
      Option.bind x3[Int.toNat x0]? fun (y : ByteArray × Int × Int × Int × ByteArray × Unit) =>
        bif decide (Int.ofNat 0 ≤ x0) then
          Option.bind x7[Int.toNat x0]? fun (y_1 : ByteArray × Int × Int × Int × ByteArray × Unit) =>
            bif
                !(ByteArray.toList y.1 == ByteArray.toList y_1.1 &&
                    (y.2.1 == y_1.2.1 &&
                      (y.2.2.1 == y_1.2.2.1 &&
                        (y.2.2.2.1 == y_1.2.2.2.1 &&
                          ByteArray.toList y.2.2.2.2.1 == ByteArray.toList y_1.2.2.2.2.1)))) then
              some (Sum.inr (Sum.inl (false, ())))
            else
              some (Sum.inl (IntKind.wrap IntKind.i64 (x0 + Int.ofNat 1), x1, x2, x3, x4, x5, x6, x7, x8, ()))
        else none
    else none
  else some (Sum.inr (Sum.inr (x1, x2, x3, x4, x5, x6, x7, x8, ()))) := by kernel_rfl
theorem B28_2_eq (x0 : Int) (x1 : ByteArray) (x2 x3 : List (Ty.D r0)) (x4 : List (Ty.D r4)) (x5 : ByteArray) (x6 x7 : List (Ty.D r0)) (x8 : List (Ty.D r4)) : B28_2 (x0, x1, x2, x3, x4, x5, x6, x7, x8, ()) =
  bif decide (x0 < Int.ofNat (List.length x4)) then
    bif decide (Int.ofNat 0 ≤ x0) then
      Option.bind x4[Int.toNat x0]? fun (y : ByteArray × ByteArray × Int × Int × Int × ByteArray × Unit) =>
        bif decide (Int.ofNat 0 ≤ x0) then
          Option.bind x8[Int.toNat x0]? fun (y_1 : ByteArray × ByteArray × Int × Int × Int × ByteArray × Unit) =>
            bif
                !(ByteArray.toList y.1 == ByteArray.toList y_1.1 &&
                    (ByteArray.toList y.2.1 == ByteArray.toList y_1.2.1 &&
                      (y.2.2.1 == y_1.2.2.1 &&
                        (y.2.2.2.1 == y_1.2.2.2.1 &&
                          (y.2.2.2.2.1 == y_1.2.2.2.2.1 &&
                            ByteArray.toList y.2.2.2.2.2.1 == ByteArray.toList y_1.2.2.2.2.2.1))))) then
              some (Sum.inr (Sum.inl (false, ())))
            else
              some (Sum.inl (IntKind.wrap IntKind.i64 (x0 + Int.ofNat 1), x1, x2, x3, x4, x5, x6, x7, x8, ()))
        else none
    else none
  else some (Sum.inr (Sum.inr ())) := by kernel_rfl
theorem F28_eq (x0 : ByteArray) (x1 x2 : List (Ty.D r0)) (x3 : List (Ty.D r4)) (x4 : ByteArray) (x5 x6 : List (Ty.D r0)) (x7 : List (Ty.D r4)) : F28 (x0, x1, x2, x3, x4, x5, x6, x7, ()) =
  bif !ByteArray.toList x0 == ByteArray.toList x4 then some (false, ())
  else
    bif !Int.ofNat (List.length x1) == Int.ofNat (List.length x5) then some (false, ())
    else
      bif !Int.ofNat (List.length x2) == Int.ofNat (List.length x6) then some (false, ())
      else
        bif !Int.ofNat (List.length x3) == Int.ofNat (List.length x7) then some (false, ())
        else
          Option.bind (loop B28_0 (Int.ofNat 0, x0, x1, x2, x3, x4, x5, x6, x7, ()))
            fun
              (r :
                Bool × Unit ⊕
                  ByteArray ×
                    List (ByteArray × Int × Int × Int × ByteArray × Unit) ×
                      List (ByteArray × Int × Int × Int × ByteArray × Unit) ×
                        List (ByteArray × ByteArray × Int × Int × Int × ByteArray × Unit) ×
                          ByteArray ×
                            List (ByteArray × Int × Int × Int × ByteArray × Unit) ×
                              List (ByteArray × Int × Int × Int × ByteArray × Unit) ×
                                List (ByteArray × ByteArray × Int × Int × Int × ByteArray × Unit) × Unit) =>
            Sum.elim (fun (p : Bool × Unit) => some (p.1, ()))
              (fun
                  (p :
                    ByteArray ×
                      List (ByteArray × Int × Int × Int × ByteArray × Unit) ×
                        List (ByteArray × Int × Int × Int × ByteArray × Unit) ×
                          List (ByteArray × ByteArray × Int × Int × Int × ByteArray × Unit) ×
                            ByteArray ×
                              List (ByteArray × Int × Int × Int × ByteArray × Unit) ×
                                List (ByteArray × Int × Int × Int × ByteArray × Unit) ×
                                  List (ByteArray × ByteArray × Int × Int × Int × ByteArray × Unit) × Unit) =>
                Option.bind
                  (loop B28_1
                    (Int.ofNat 0, p.1, p.2.1, p.2.2.1, p.2.2.2.1, p.2.2.2.2.1, p.2.2.2.2.2.1, p.2.2.2.2.2.2.1,
                      p.2.2.2.2.2.2.2.1, ()))
                  fun
                    (r :
                      Bool × Unit ⊕
                        ByteArray ×
                          List (ByteArray × Int × Int × Int × ByteArray × Unit) ×
                            List (ByteArray × Int × Int × Int × ByteArray × Unit) ×
                              List (ByteArray × ByteArray × Int × Int × Int × ByteArray × Unit) ×
                                ByteArray ×
                                  List (ByteArray × Int × Int × Int × ByteArray × Unit) ×
                                    List (ByteArray × Int × Int × Int × ByteArray × Unit) ×
                                      List (ByteArray × ByteArray × Int × Int × Int × ByteArray × Unit) × Unit) =>
                  Sum.elim (fun (p : Bool × Unit) => some (p.1, ()))
                    (fun
                        (p :
                          ByteArray ×
                            List (ByteArray × Int × Int × Int × ByteArray × Unit) ×
                              List (ByteArray × Int × Int × Int × ByteArray × Unit) ×
                                List (ByteArray × ByteArray × Int × Int × Int × ByteArray × Unit) ×
                                  ByteArray ×
                                    List (ByteArray × Int × Int × Int × ByteArray × Unit) ×
                                      List (ByteArray × Int × Int × Int × ByteArray × Unit) ×
                                        List (ByteArray × ByteArray × Int × Int × Int × ByteArray × Unit) × Unit) =>
                      Option.bind
                        (loop B28_2
                          (Int.ofNat 0, p.1, p.2.1, p.2.2.1, p.2.2.2.1, p.2.2.2.2.1, p.2.2.2.2.2.1, p.2.2.2.2.2.2.1,
                            p.2.2.2.2.2.2.2.1, ()))
                        fun (r : Bool × Unit ⊕ Unit) =>
                        Sum.elim (fun (p : Bool × Unit) => some (p.1, ()))
                          (fun (p : Unit) => some (true, ())) r)
                    r)
              r := by kernel_rfl
theorem B9_0_eq (x0 : Int) (x1 : List (Ty.D r2)) (x2 : List (Ty.D r3)) (x3 : List (Ty.D r2)) (x4 : List (Ty.D r3)) (x5 : ByteArray) (x6 x7 : List (Ty.D r0)) (x8 : List (Ty.D r4)) (x9 : ByteArray) (x10 x11 : List (Ty.D r0)) (x12 : List (Ty.D r4)) (x13 : List (Ty.D r6)) : B9_0 (x0, x1, x2, x3, x4, x5, x6, x7, x8, x9, x10, x11, x12, x13, ()) =
  bif decide (x0 < Int.ofNat (List.length x13)) then
    bif decide (Int.ofNat 0 ≤ x0) && decide (x0 < Int.ofNat (List.length x13)) then
      Option.bind x13[Int.toNat x0]?
        fun (y : ByteArray × Int × Int × Int × ByteArray × ByteArray × Int × Int × Int × ByteArray × Unit) =>
        some
          (Sum.inl
            (IntKind.wrap IntKind.i64 (x0 + Int.ofNat 1), x1, x2, x3, x4, x5, x6, x7, x8, x9, x10, x11, x12,
              List.set x13 (Int.toNat x0)
                ((lit [63]),
                  y.2.1, y.2.2.1, y.2.2.2.1, y.2.2.2.2.1, y.2.2.2.2.2.1, y.2.2.2.2.2.2.1, y.2.2.2.2.2.2.2.1,
                  y.2.2.2.2.2.2.2.2.1, y.2.2.2.2.2.2.2.2.2.1, ()),
              ()))
    else none
  else some (Sum.inr (x1, x2, x3, x4, x5, x6, x7, x8, x9, x10, x11, x12, ())) := by kernel_rfl
theorem B9_1_eq (x0 : Int) (x1 x2 : Nat) (x3 : Int) (x4 : List (Ty.D r2)) (x5 : List (Ty.D r3)) (x6 : List (Ty.D r2)) (x7 : List (Ty.D r3)) (x8 : ByteArray) (x9 x10 : List (Ty.D r0)) (x11 : List (Ty.D r4)) (x12 : ByteArray) (x13 x14 : List (Ty.D r0)) (x15 : List (Ty.D r4)) (x16 : List (Ty.D r0)) : B9_1 (x0, x1, x2, x3, x4, x5, x6, x7, x8, x9, x10, x11, x12, x13, x14, x15, x16, ()) =
  bif decide (x3 < Int.ofNat (x2 - x1)) then
    bif decide (Int.ofNat 0 ≤ x3) && decide (x3 < Int.ofNat (x2 - x1)) then
      Option.bind x16[x1 + Int.toNat x3]? fun (y : ByteArray × Int × Int × Int × ByteArray × Unit) =>
        some
          (Sum.inl
            (x0, x1, x2, IntKind.wrap IntKind.i64 (x3 + Int.ofNat 1), x4, x5, x6, x7, x8, x9, x10, x11, x12, x13, x14,
              x15,
              List.set x16 (x1 + Int.toNat x3)
                ((lit [63]),
                  y.2.1, y.2.2.1, y.2.2.2.1, y.2.2.2.2.1, ()),
              ()))
    else none
  else some (Sum.inr (x0, x4, x5, x6, x7, x8, x9, x10, x11, x12, x13, x14, x15, ())) := by kernel_rfl
theorem B9_2_eq (x0 : Int) (x1 : List (Ty.D r2)) (x2 : List (Ty.D r3)) (x3 : List (Ty.D r2)) (x4 : List (Ty.D r3)) (x5 : ByteArray) (x6 x7 : List (Ty.D r0)) (x8 : List (Ty.D r4)) (x9 : ByteArray) (x10 x11 : List (Ty.D r0)) (x12 : List (Ty.D r4)) : B9_2 (x0, x1, x2, x3, x4, x5, x6, x7, x8, x9, x10, x11, x12, ()) =
  bif decide (x0 < Int.ofNat (List.length x6)) then
    bif decide (Int.ofNat 0 ≤ x0) then
      Option.bind x6[Int.toNat x0]? fun (y : ByteArray × Int × Int × Int × ByteArray × Unit) =>
        Option.bind (F26o (x1, x2, x5, x6, x7, x8, y.1, y.2.1, y.2.2.1, y.2.2.2.1, y.2.2.2.2.1, ()))
          fun (r : Nat × Nat × Int × List (ByteArray × Int × Int × Int × ByteArray × Unit) × Unit) =>
          Option.bind
            (loop B9_1
              (x0, r.1, r.2.1, Int.ofNat 0, x1, x2, x3, x4, x5, x6, x7, x8, x9, x10, x11, x12, r.2.2.2.1, ()))
            fun
              (r :
                Int ×
                  List
                      (ByteArray ×
                        List
                            (Int ×
                              Int ×
                                Int ×
                                  ByteArray ×
                                    List (ByteArray × Int × Int × Int × ByteArray × Unit) ×
                                      ByteArray × ByteArray × Unit) ×
                          Unit) ×
                    List (ByteArray × ByteArray × Bool × Bool × Int × Int × Int × ByteArray × Int × Unit) ×
                      List
                          (ByteArray ×
                            List
                                (Int ×
                                  Int ×
                                    Int ×
                                      ByteArray ×
                                        List (ByteArray × Int × Int × Int × ByteArray × Unit) ×
                                          ByteArray × ByteArray × Unit) ×
                              Unit) ×
                        List (ByteArray × ByteArray × Bool × Bool × Int × Int × Int × ByteArray × Int × Unit) ×
                          ByteArray ×
                            List (ByteArray × Int × Int × Int × ByteArray × Unit) ×
                              List (ByteArray × Int × Int × Int × ByteArray × Unit) ×
                                List (ByteArray × ByteArray × Int × Int × Int × ByteArray × Unit) ×
                                  ByteArray ×
                                    List (ByteArray × Int × Int × Int × ByteArray × Unit) ×
                                      List (ByteArray × Int × Int × Int × ByteArray × Unit) ×
                                        List (ByteArray × ByteArray × Int × Int × Int × ByteArray × Unit) × Unit) =>
            some
              (Sum.inl
                (IntKind.wrap IntKind.i64 (r.1 + Int.ofNat 1), r.2.1, r.2.2.1, r.2.2.2.1, r.2.2.2.2.1, r.2.2.2.2.2.1,
                  r.2.2.2.2.2.2.1, r.2.2.2.2.2.2.2.1, r.2.2.2.2.2.2.2.2.1, r.2.2.2.2.2.2.2.2.2.1,
                  r.2.2.2.2.2.2.2.2.2.2.1, r.2.2.2.2.2.2.2.2.2.2.2.1, r.2.2.2.2.2.2.2.2.2.2.2.2.1, ()))
    else none
  else some (Sum.inr (x1, x2, x3, x4, x5, x6, x7, x8, x9, x10, x11, x12, ())) := by kernel_rfl
theorem F9_eq (x0 : Int) (x1 x2 : List Int) : F9 (x0, x1, x2, ()) =
  Option.bind (F13 ()) fun (r : Bool × Unit) =>
    bif !r.1 then some (false, ())
    else
      Option.bind (F14 (x0, x1, true, ()))
        fun
          (r :
            List
                (ByteArray ×
                  List
                      (Int ×
                        Int ×
                          Int ×
                            ByteArray ×
                              List (ByteArray × Int × Int × Int × ByteArray × Unit) × ByteArray × ByteArray × Unit) ×
                    Unit) ×
              List (ByteArray × ByteArray × Bool × Bool × Int × Int × Int × ByteArray × Int × Unit) × Unit) =>
        Option.bind (F14 (x0, x1, true, ()))
          fun
            (r_1 :
              List
                  (ByteArray ×
                    List
                        (Int ×
                          Int ×
                            Int ×
                              ByteArray ×
                                List (ByteArray × Int × Int × Int × ByteArray × Unit) ×
                                  ByteArray × ByteArray × Unit) ×
                      Unit) ×
                List (ByteArray × ByteArray × Bool × Bool × Int × Int × Int × ByteArray × Int × Unit) × Unit) =>
          Option.bind (F15 (r.1, r.2.1, x2, ()))
            fun
              (r_2 :
                ByteArray ×
                  List (ByteArray × Int × Int × Int × ByteArray × Unit) ×
                    List (ByteArray × Int × Int × Int × ByteArray × Unit) ×
                      List (ByteArray × ByteArray × Int × Int × Int × ByteArray × Unit) × Unit) =>
            Option.bind (F15 (r_1.1, r_1.2.1, x2, ()))
              fun
                (r_3 :
                  ByteArray ×
                    List (ByteArray × Int × Int × Int × ByteArray × Unit) ×
                      List (ByteArray × Int × Int × Int × ByteArray × Unit) ×
                        List (ByteArray × ByteArray × Int × Int × Int × ByteArray × Unit) × Unit) =>
              Option.bind (F19o (r.1, r.2.1, r_2.1, r_2.2.1, r_2.2.2.1, r_2.2.2.2.1, ()))
                fun
                  (r_4 :
                    Int ×
                      List (ByteArray × Int × Int × Int × ByteArray × ByteArray × Int × Int × Int × ByteArray × Unit) ×
                        Unit) =>
                Option.bind
                  (loop B9_0
                    (Int.ofNat 0, r.1, r.2.1, r_1.1, r_1.2.1, r_2.1, r_2.2.1, r_2.2.2.1, r_2.2.2.2.1, r_3.1, r_3.2.1,
                      r_3.2.2.1, r_3.2.2.2.1, r_4.2.1, ()))
                  fun
                    (r :
                      List
                          (ByteArray ×
                            List
                                (Int ×
                                  Int ×
                                    Int ×
                                      ByteArray ×
                                        List (ByteArray × Int × Int × Int × ByteArray × Unit) ×
                                          ByteArray × ByteArray × Unit) ×
                              Unit) ×
                        List (ByteArray × ByteArray × Bool × Bool × Int × Int × Int × ByteArray × Int × Unit) ×
                          List
                              (ByteArray ×
                                List
                                    (Int ×
                                      Int ×
                                        Int ×
                                          ByteArray ×
                                            List (ByteArray × Int × Int × Int × ByteArray × Unit) ×
                                              ByteArray × ByteArray × Unit) ×
                                  Unit) ×
                            List (ByteArray × ByteArray × Bool × Bool × Int × Int × Int × ByteArray × Int × Unit) ×
                              ByteArray ×
                                List (ByteArray × Int × Int × Int × ByteArray × Unit) ×
                                  List (ByteArray × Int × Int × Int × ByteArray × Unit) ×
                                    List (ByteArray × ByteArray × Int × Int × Int × ByteArray × Unit) ×
                                      ByteArray ×
                                        List (ByteArray × Int × Int × Int × ByteArray × Unit) ×
                                          List (ByteArray × Int × Int × Int × ByteArray × Unit) ×
                                            List (ByteArray × ByteArray × Int × Int × Int × ByteArray × Unit) ×
                                              Unit) =>
                  Option.bind
                    (loop B9_2
                      (Int.ofNat 0, r.1, r.2.1, r.2.2.1, r.2.2.2.1, r.2.2.2.2.1, r.2.2.2.2.2.1, r.2.2.2.2.2.2.1,
                        r.2.2.2.2.2.2.2.1, r.2.2.2.2.2.2.2.2.1, r.2.2.2.2.2.2.2.2.2.1, r.2.2.2.2.2.2.2.2.2.2.1,
                        r.2.2.2.2.2.2.2.2.2.2.2.1, ()))
                    fun
                      (r :
                        List
                            (ByteArray ×
                              List
                                  (Int ×
                                    Int ×
                                      Int ×
                                        ByteArray ×
                                          List (ByteArray × Int × Int × Int × ByteArray × Unit) ×
                                            ByteArray × ByteArray × Unit) ×
                                Unit) ×
                          List (ByteArray × ByteArray × Bool × Bool × Int × Int × Int × ByteArray × Int × Unit) ×
                            List
                                (ByteArray ×
                                  List
                                      (Int ×
                                        Int ×
                                          Int ×
                                            ByteArray ×
                                              List (ByteArray × Int × Int × Int × ByteArray × Unit) ×
                                                ByteArray × ByteArray × Unit) ×
                                    Unit) ×
                              List (ByteArray × ByteArray × Bool × Bool × Int × Int × Int × ByteArray × Int × Unit) ×
                                ByteArray ×
                                  List (ByteArray × Int × Int × Int × ByteArray × Unit) ×
                                    List (ByteArray × Int × Int × Int × ByteArray × Unit) ×
                                      List (ByteArray × ByteArray × Int × Int × Int × ByteArray × Unit) ×
                                        ByteArray ×
                                          List (ByteArray × Int × Int × Int × ByteArray × Unit) ×
                                            List (ByteArray × Int × Int × Int × ByteArray × Unit) ×
                                              List (ByteArray × ByteArray × Int × Int × Int × ByteArray × Unit) ×
                                                Unit) =>
                    Option.bind
                      (F19o (r.1, r.2.1, r.2.2.2.2.1, r.2.2.2.2.2.1, r.2.2.2.2.2.2.1, r.2.2.2.2.2.2.2.1, ()))
                      fun
                        (r_5 :
                          Int ×
                            List
                                (ByteArray ×
                                  Int × Int × Int × ByteArray × ByteArray × Int × Int × Int × ByteArray × Unit) ×
                              Unit) =>
                      Option.bind
                        (F22
                          (r.2.2.1, r.2.2.2.1, r.2.2.2.2.2.2.2.2.1, r.2.2.2.2.2.2.2.2.2.1, r.2.2.2.2.2.2.2.2.2.2.1,
                            r.2.2.2.2.2.2.2.2.2.2.2.1, ()))
                        fun
                          (r_6 :
                            List
                                (ByteArray ×
                                  Int × Int × Int × ByteArray × ByteArray × Int × Int × Int × ByteArray × Unit) ×
                              Int × Unit) =>
                        Option.bind (F27 (r.1, r.2.1, r.2.2.1, r.2.2.2.1, ())) fun (r_7 : Bool × Unit) =>
                          bif r_7.1 then
                            Option.bind
                              (F28
                                (r.2.2.2.2.1, r.2.2.2.2.2.1, r.2.2.2.2.2.2.1, r.2.2.2.2.2.2.2.1, r.2.2.2.2.2.2.2.2.1,
                                  r.2.2.2.2.2.2.2.2.2.1, r.2.2.2.2.2.2.2.2.2.2.1, r.2.2.2.2.2.2.2.2.2.2.2.1,
                                  ()))
                              fun (r : Bool × Unit) =>
                              bif r.1 then
                                bif r_5.1 == r_6.2.1 then
                                  Option.bind (F23o (r_6.1, r_5.2.1, ()))
                                    fun
                                      (r :
                                        Bool ×
                                          List
                                              (ByteArray ×
                                                Int ×
                                                  Int ×
                                                    Int × ByteArray × ByteArray × Int × Int × Int × ByteArray × Unit) ×
                                            Unit) =>
                                    some (r.1, ())
                                else some (false, ())
                              else some (false, ())
                          else some (false, ()) := by kernel_rfl
end Go.Vx.Z
/-! What List, Asks tell, as lists of their own. -/
namespace Go.Vx
open Go
set_option linter.unusedVariables false
end Go.Vx
namespace Go.Vx.Z
open Go Go.Vx
set_option linter.unusedVariables false
set_option maxRecDepth 100000
section
variable (md : ByteArray) (rq ex : List Req) (sw : List Swp) (w : List Mod) (rv : List Rev)
end
theorem compact_in_o (l : List Req) (k0 : Nat) (h1 : 1 ≤ k0) (hk : k0 < l.length) (hn : l.length ≤ big) (heq : l[k0] = l[k0 - 1]) (hc : compactOf (l.take k0) = l.take k0) :
    ∃ (k' : Nat) (b : List Req), loop B71o_0 ((k0 : Int), k0, l.length, ((1 : Nat) : Int), l, ()) = some ((k' : Int), b, ()) ∧ k' ≤ l.length ∧ b.length = l.length ∧ b.take k' = compactOf l := by
  obtain ⟨⟨k', b⟩, h4, h5⟩ := loop_upto (B := B71o_0) (l.length - k0) (fun j (b : Nat × List Req) => ((b.1 : Int), k0, l.length, (j : Int), b.2, ())) (fun b => ((b.1 : Int), b.2, ()))
    (fun j b => 1 ≤ j ∧ b.1 + 1 ≤ k0 + j ∧ b.2.length = l.length ∧ b.2.drop b.1 = l.drop b.1 ∧ b.2.take b.1 = compactOf (l.take (k0 + j))) (by
      rintro j hj ⟨i0, b⟩ ⟨q0, q1, q2, q3, q4⟩
      simp only at q1 q2 q3 q4 ⊢
      have hkj : k0 + j < l.length := by omega
      have hkb : k0 + j < b.length := by omega
      have hget : ∀ t, i0 ≤ t → b[t]? = l[t]? := fun t ht => by
        have := congrArg (fun z => z[t - i0]?) q3
        simpa [List.getElem?_drop, show i0 + (t - i0) = t by omega] using this
      have g1 : b[k0 + Int.toNat (j : Int)]? = some l[k0 + j] := by
        rw [Int.toNat_natCast, hget _ (by omega)]; simp [hkj]
      have g2 : b[k0 + Int.toNat ((j - 1 : Nat) : Int)]? = some l[k0 + j - 1] := by
        rw [Int.toNat_natCast, show k0 + (j - 1) = k0 + j - 1 by omega, hget _ (by omega)]
        simp [show k0 + j - 1 < l.length by omega]
      have htk : l.take (k0 + (j + 1)) = l.take (k0 + j) ++ [l[k0 + j]] := by rw [← Nat.add_assoc, List.take_succ_eq_append_getElem hkj]
      have hlast : (l.take (k0 + j)).getLast? = some l[k0 + j - 1] := by
        rw [take_last (by omega) (by omega)]
        simp [show k0 + j - 1 < l.length by omega]
      have hj1 : j - 1 < l.length - k0 := by omega
      have hi0 : i0 < b.length := by omega
      rw [B71o_0_eq, lt_in hj, ge_zero, g1, wrap_prev q0 (show j ≤ l.length by omega) (by simp only [big] at hn; omega), lt_in hj1, ge_zero, wrap_next hj (by simp only [big] at hn; omega)]
      simp only [Bool.and_self, cond_true, Option.bind_some, g2, beq_bs]
      show ∃ b', (bif !(eqR l[k0 + j] l[k0 + j - 1]) then _ else _) = _ ∧ _
      cases he : eqR l[k0 + j] l[k0 + j - 1] with
      | true =>
        refine ⟨(i0, b), rfl, by omega, by simp only; omega, q2, q3, ?_⟩
        rw [htk, compactOf_snoc, hlast, if_pos (by rw [eqR_iff.1 he])]
        exact q4
      | false =>
        have hne : l[k0 + j - 1] ≠ l[k0 + j] := fun e => by rw [eqR_iff.2 e.symm] at he; cases he
        simp only [Bool.not_false, cond_true]
        rw [lt_both hi0, at_in hi0, wrap_next hi0 (by simp only [big] at hn; omega)]
        refine ⟨(i0 + 1, b.set i0 l[k0 + j]), rfl, by omega, by simp only; omega, by simp [q2], ?_, ?_⟩
        · simp only
          rw [List.drop_set_of_lt (by omega)]
          have := congrArg (List.drop 1) q3
          simpa [List.drop_drop] using this
        · simp only
          rw [htk, compactOf_snoc, hlast, if_neg (by simpa using hne), ← q4, List.take_succ_eq_append_getElem (by simpa using hi0), List.take_set_of_le (Nat.le_refl _)]
          simp) (by
      rintro ⟨i0, b⟩ ⟨q0, q1, q2, q3, q4⟩
      rw [B71o_0_eq, lt_out]
      rfl) 1 (k0, l) (by omega) ⟨Nat.le_refl _, by simp, rfl, rfl, by
        simp only
        rw [List.take_succ_eq_append_getElem hk, compactOf_snoc, take_last h1 (by omega), if_pos (by rw [heq]; simp [show k0 - 1 < l.length by omega]), hc]⟩
  obtain ⟨q0, q1, q2, q3, q4⟩ := h5
  simp only at q1 q2 q3 q4
  refine ⟨k', b, h4, by omega, q2, ?_⟩
  rw [q4, show k0 + (l.length - k0) = l.length by omega, List.take_length]
theorem F71o_is (l : List Req) (hn : l.length ≤ big) : ∃ (hi : Nat) (l' : List Req), F71o (l, ()) = some (0, hi, l', ()) ∧ hi ≤ l'.length ∧ l'.length = l.length := by
  rw [F71o_eq]
  by_cases h2 : l.length < 2
  · rw [show decide (Int.ofNat l.length < Int.ofNat 2) = true by simp; omega]
    match l, h2 with
    | [], _ => exact ⟨0, [], rfl, Nat.le_refl _, rfl⟩
    | [x], _ => exact ⟨1, [x], rfl, Nat.le_refl _, rfl⟩
    | _ :: _ :: _, h2 => simp at h2; omega
  · rw [show decide (Int.ofNat l.length < Int.ofNat 2) = false by simp; omega, cond_false]
    obtain ⟨e, h1, h3⟩ := loop_inv (B := B71o_1) (fun p => ∃ k : Nat, 1 ≤ k ∧ k ≤ l.length ∧ compactOf (l.take k) = l.take k ∧ p = ((k : Int), l, ())) (fun p => (Int.ofNat l.length - p.1).toNat)
      (fun e => (e = .inr (l, ()) ∧ compactOf l = l) ∨ ∃ k' b, e = .inl (0, k', b, ()) ∧ k' ≤ b.length ∧ b.length = l.length) (by
        rintro p ⟨k, hk1, hk2, hc, rfl⟩
        rw [B71o_1_eq]
        by_cases hlt : k < l.length
        · have hk1' : k - 1 < l.length := by omega
          rw [lt_in hlt, ge_zero, at_in hlt, wrap_prev hk1 (show k ≤ l.length by omega) (by simp only [big] at hn; omega), lt_in hk1', ge_zero, at_in hk1', wrap_next hlt (by simp only [big] at hn; omega)]
          simp only [Bool.and_self, cond_true, Option.bind_some, beq_bs]
          have htk : l.take (k + 1) = l.take k ++ [l[k]] := by rw [List.take_succ_eq_append_getElem hlt]
          have hlast : (l.take k).getLast? = some l[k - 1] := by rw [take_last hk1 (by omega)]; simp [hk1']
          show (∃ q, (bif eqR l[k] l[k - 1] then _ else _) = _ ∧ _) ∨ ∃ e, (bif eqR l[k] l[k - 1] then _ else _) = _ ∧ _
          cases he : eqR l[k] l[k - 1] with
          | false =>
            have hne : l[k - 1] ≠ l[k] := fun e => by rw [eqR_iff.2 e.symm] at he; cases he
            refine .inl ⟨_, rfl, ⟨k + 1, by omega, hlt, ?_, rfl⟩, ?_⟩
            · rw [htk, compactOf_snoc, hlast, if_neg (by simpa using hne), hc]
            · simp; omega
          | true =>
            refine .inr ?_
            simp only [cond_true]
            have e1 : (true && (decide ((k : Int) ≤ Int.ofNat l.length) && decide (Int.ofNat l.length ≤ Int.ofNat l.length))) = true := by
              simp; exact hk2
            rw [e1, cond_true]
            obtain ⟨k', b, h4, h5, h6, h7⟩ := compact_in_o l k hk1 hlt hn (eqR_iff.1 he) hc
            rw [show 0 + Int.toNat (k : Int) = k by simp, show 0 + Int.toNat (Int.ofNat l.length) = l.length by simp, show (Int.ofNat 1 : Int) = ((1 : Nat) : Int) from rfl, h4, Option.bind_some]
            have hle : k' ≤ b.length := by omega
            have e2 : ∀ (z : Req), (b.take (0 + Int.toNat (k' : Int)) ++ List.replicate (0 + Int.toNat (Int.ofNat b.length) - (0 + Int.toNat (k' : Int))) z ++ b.drop (0 + Int.toNat (k' : Int) + (0 + Int.toNat (Int.ofNat b.length) - (0 + Int.toNat (k' : Int))))).length = b.length := by
              intro z; simp; omega
            have e4 : (decide (Int.ofNat 0 ≤ (k' : Int)) && (decide ((k' : Int) ≤ Int.ofNat b.length) && decide (Int.ofNat b.length ≤ Int.ofNat b.length))) = true := by
              simp; exact hle
            simp only
            rw [e4, cond_true, e2, e4, cond_true]
            refine ⟨_, rfl, .inr ⟨_, _, rfl, ?_, ?_⟩⟩
            · simp
              omega
            · simp
              omega
        · have : k = l.length := by omega
          subst this
          rw [lt_out]
          refine .inr ⟨_, rfl, .inl ⟨rfl, ?_⟩⟩
          rwa [List.take_length] at hc) (Int.ofNat 1, l, ()) ⟨1, Nat.le_refl _, by omega, by
          cases l with
          | nil => rfl
          | cons x l => simp [compactOf], rfl⟩
    rw [h1, Option.bind_some]
    rcases h3 with ⟨rfl, h4⟩ | ⟨k', b, rfl, h4⟩
    · exact ⟨l.length, l, rfl, Nat.le_refl _, rfl⟩
    · exact ⟨k', b, rfl, h4⟩
section
variable (md : ByteArray) (rq ex : List Req) (sw : List Swp) (w : List Mod) (rv : List Rev)
end
end Go.Vx.Z
namespace Go.Vx.Z
open Go Go.Vx
set_option linter.unusedVariables false
theorem F67o_is (l : List Blt) (h : l.length ≤ big) : F67o (l, ()) = some (l, ()) := by
  rw [F67o_eq]
  have : decide (0 + l.length ≤ 1256584717458) = true := by simp only [decide_eq_true_eq]; simp only [big] at h; omega
  rw [this]
  cases l with
  | nil => simp [both]
  | cons => rfl
end Go.Vx.Z
namespace Go.Vx
open Go
set_option linter.unusedVariables false
end Go.Vx
namespace Go.Vx.Z
open Go Go.Vx
set_option linter.unusedVariables false
set_option maxRecDepth 100000
section
variable (md : ByteArray) (rq ex : List Req) (sw : List Swp) (w : List Mod) (rv : List Rev)
theorem F45o_is (l : List Req) (hl : ∀ r ∈ l, okR r = true) (hn : l.length ≤ big) (h : sw.length ≤ big) : F45o (md, rq, ex, sw, w, rv, l, ()) = some ((lasts (sortBy cmpR l)).map (mkB sw), ()) := by
  have hsl : (sortBy cmpR l).length ≤ big := by rw [(sortBy_perm l).length_eq]; exact hn
  rw [F45o_eq, F65_eq, Option.bind_some, F64_eq]
  have h83 : F83 (l, ()) = some (l, l, ()) := by
    rw [F83_eq]
    have : decide (l.length ≤ 2513169434916) = true := by rw [decide_eq_true_eq]; simp only [big] at hn; omega
    rw [this]; rfl
  simp only
  rw [h83, Option.bind_some]
  simp only
  rw [F54_is l hl hn, Option.bind_some, Option.bind_some]
  simp only
  generalize sortBy cmpR l = s at hsl
  obtain ⟨x, h1, h2⟩ := loop_upto (B := B45o_0) s.length (fun i (b : List Blt) => (Int.ofNat s.length, (i : Int), s, md, rq, ex, sw, w, rv, b, ())) (fun b => (b, ()))
    (fun i b => b.length ≤ i ∧ (lasts s).map (mkB sw) = b ++ (lasts (s.drop i)).map (mkB sw)) (by
      rintro i hi b ⟨hbl, hb⟩
      have h66 := F66_is md rq ex sw w rv s[i].1 h
      have e2 : ∀ z : Blt, decide (b.length + [z].length ≤ 1256584717458) = true := by
        intro z; rw [decide_eq_true_eq]; simp only [big] at hsl; simp only [List.length_cons, List.length_nil]; omega
      have hmk : ∀ (r : ByteArray × ByteArray × Int × Int × Int × ByteArray × Bool × Unit), r = (swapOf sw s[i].1).elim (lit [], lit [], 0, 0, 0, lit [], false, ()) (fun y => (y.1, y.2.1, y.2.2.1, y.2.2.2.1, y.2.2.2.2.1, y.2.2.2.2.2.1, true, ())) →
          (s[i].1, s[i].2.1, s[i].2.2.1, s[i].2.2.2.1, s[i].2.2.2.2.1, r.2.1, r.2.2.1, r.2.2.2.1, r.2.2.2.2.1, r.2.2.2.2.2.1, ()) = mkB sw s[i] := by
        rintro r rfl
        unfold mkB
        cases swapOf sw s[i].1 <;> rfl
      rw [B45o_0_eq, lt_in hi, ge_zero, at_in hi, wrap_next hi (by simp only [big] at hsl; omega)]
      simp only [Bool.and_self, cond_true, Option.bind_some]
      rw [lasts_drop hi] at hb
      by_cases h1 : i + 1 < s.length
      · rw [lt_in h1, ge_zero, at_in h1]
        simp only [Bool.and_self, cond_true, Option.bind_some, beq_bs]
        rw [List.getElem?_eq_getElem h1] at hb
        simp only at hb
        by_cases he : s[i + 1].1 = s[i].1
        · rw [show (bs s[i + 1].1 == bs s[i].1) = true from bs_eq.2 he]
          rw [if_pos he] at hb
          exact ⟨b, rfl, by omega, hb⟩
        · rw [show (bs s[i + 1].1 == bs s[i].1) = false from by rw [← Bool.not_eq_true]; exact fun e => he (bs_eq.1 e), cond_false, h66, Option.bind_some]
          rw [if_neg he] at hb
          rw [hmk _ rfl, e2]
          refine ⟨b ++ [mkB sw s[i]], rfl, by simp; omega, ?_⟩
          rw [hb]; simp
      · rw [show decide (((i + 1 : Nat) : Int) < Int.ofNat s.length) = false by simp; omega, cond_false, h66, Option.bind_some]
        rw [List.getElem?_eq_none (by omega)] at hb
        rw [hmk _ rfl, e2]
        refine ⟨b ++ [mkB sw s[i]], rfl, by simp; omega, ?_⟩
        rw [hb, List.drop_eq_nil_of_le (by omega)]; simp [lasts]) (by
      rintro b ⟨hbl, hb⟩
      rw [B45o_0_eq, lt_out]
      rfl) 0 [] (by omega) ⟨Nat.le_refl _, by simp⟩
  rw [show (Int.ofNat 0 : Int) = ((0 : Nat) : Int) from rfl, h1, Option.bind_some]
  obtain ⟨h3, h4⟩ := h2
  rw [List.drop_length] at h4
  simp only [lasts, List.map_nil, List.append_nil] at h4
  simp only
  rw [F67o_is x (by omega), h4]
  rfl
end
end Go.Vx.Z
/-! List, Asks, as lists of their own; worlds, manifests that are the same. -/
namespace Go.Vx.Z
open Go Go.Vx
set_option linter.unusedVariables false
set_option maxRecDepth 100000
section
variable (md : ByteArray) (rq ex : List Req) (sw : List Swp) (w : List Mod) (rv : List Rev)
theorem asks_own (h : okS ex sw w) (x : Req) : ∃ (hi : Nat) (e : Int) (l : List Req), (Option.bind (F69 (w, rv, x.1, x.2.1, x.2.2.1, x.2.2.2.1, x.2.2.2.2.1, ())) fun r =>
        bif !r.2.2.2.2.2.2.2.1 then some ((0 : Nat), (0 : Nat), Int.ofNat 9, ([] : List Req), ())
        else Option.bind (F53 (md, rq, ex, sw, w, rv, r.2.2.2.2.1, ())) fun r =>
            bif !r.1 == Int.ofNat 0 then some (0, 0, r.1, [], ())
            else Option.bind (F54 (r.2.1, ())) fun r => Option.bind (F71o (r.1, ())) fun r => Option.bind (F70o (r.1, r.2.1, r.2.2.1, ())) fun r => some (r.1, r.2.1, Int.ofNat 0, r.2.2.1, ())) = some (0, hi, e, l, ()) ∧ hi ≤ l.length ∧ l.length ≤ big := by
  rw [F69_is w rv x.1 x.2 h.hw, Option.bind_some]
  cases hy : relOf w x.1 x.2 with
  | none => exact ⟨0, 9, [], rfl, by simp, by simp⟩
  | some y =>
    obtain ⟨hlen, hok⟩ := rel_ok ex sw w h hy
    simp only [Option.elim_some, Bool.not_true, cond_false]
    have h53 := F53_is md rq ex sw w rv y.reqs (fun r hr => okR_ver (hok r hr)) hlen h
    have h53' : F53 (md, rq, ex, sw, w, rv, y.2.2.2.2.1, ()) = some ((allOf md ex sw w y.reqs).1, (allOf md ex sw w y.reqs).2, ()) := h53
    rw [h53', Option.bind_some]
    simp only
    by_cases h0 : (allOf md ex sw w y.reqs).1 = 0
    · have hl2 : (allOf md ex sw w y.reqs).2.length ≤ big := Nat.le_trans (allOf_len md ex sw w _) hlen
      rw [show (!(allOf md ex sw w y.reqs).1 == Int.ofNat 0) = false by rw [h0]; rfl, cond_false]
      rw [F54_is _ (allOf_ok md ex sw w h _ hok) hl2, Option.bind_some]
      have hsl : (sortBy cmpR (allOf md ex sw w y.reqs).2).length ≤ big := by rw [(sortBy_perm _).length_eq]; exact hl2
      obtain ⟨hi, l', h71, h72, h73⟩ := F71o_is (sortBy cmpR (allOf md ex sw w y.reqs).2) hsl
      simp only
      rw [h71, Option.bind_some, F70o_eq]
      have e1 : (decide (Int.ofNat 0 ≤ Int.ofNat (hi - 0)) && (decide (Int.ofNat (hi - 0) ≤ Int.ofNat (hi - 0)) && decide (Int.ofNat (hi - 0) ≤ Int.ofNat (hi - 0)))) = true := by simp
      rw [e1, cond_true, Option.bind_some]
      refine ⟨0 + Int.toNat (Int.ofNat (hi - 0)), 0, l', rfl, ?_, by rw [h73]; exact hsl⟩
      simp
      exact h72
    · have hb : (!(allOf md ex sw w y.reqs).1 == Int.ofNat 0) = true := by
        rw [Bool.not_eq_true', ← Bool.not_eq_true]
        intro e; exact h0 (by simpa using e)
      rw [hb]
      exact ⟨0, _, [], rfl, by simp, by simp⟩
theorem F26o_is (h : okS ex sw w) (r : Req) : ∃ (hi : Nat) (e : Int) (l : List Req), F26o (w, rv, md, rq, ex, sw, r.1, r.2.1, r.2.2.1, r.2.2.2.1, r.2.2.2.2.1, ()) = some (0, hi, e, l, ()) ∧ hi ≤ l.length ∧ l.length ≤ big := by
  have key : ∃ (hi : Nat) (e : Int) (l : List Req), F52o (md, rq, ex, sw, w, rv, r.1, r.2.1, r.2.2.1, r.2.2.2.1, r.2.2.2.2.1, ()) = some (0, hi, e, l, ()) ∧ hi ≤ l.length ∧ l.length ≤ big := by
    rw [F52o_eq, F66_is md rq ex sw w rv r.1 h.hsw, Option.bind_some]
    cases hsw : swapOf sw r.1 with
    | some y =>
      simp only [Option.elim_some, cond_true]
      exact asks_own md rq ex sw w rv h y.2
    | none =>
      simp only [Option.elim_none, cond_false]
      exact asks_own md rq ex sw w rv h r
  obtain ⟨hi, e, l, h1, h2⟩ := key
  refine ⟨hi, e, l, ?_, h2⟩
  rw [F26o_eq, F43_eq, Option.bind_some]
  simp only
  rw [h1, Option.bind_some]
/-- List, as a list of its own: the same. -/
theorem F19o_is (hS : Small w) (he : ex.length ≤ 1000) (hs : sw.length ≤ 1000) (hr : rq.length ≤ 1000) (hrq : ∀ r ∈ rq, okR r = true) (l : List Blt) (e : Int) (h : F19 (w, rv, md, rq, ex, sw, ()) = some (l, e, ())) : F19o (w, rv, md, rq, ex, sw, ()) = some (e, l, ()) := by
  have hok := small_ok ex sw w hS he hs
  have hml := may_len rq w hS hr
  obtain ⟨ec, oc, c1, c2⟩ := closed_ok md rq ex sw w rv hok hrq (by simp only [big]; omega) (mayCome w rq) 10 (reach_may md rq ex sw w) (asksOf_len md ex sw w 10 hS.reqs) (by simp only [big]; omega)
  rw [F19_eq, F43_eq, Option.bind_some] at h
  simp only at h
  rw [c1, Option.bind_some] at h
  rw [F19o_eq, F43_eq, Option.bind_some]
  simp only
  rw [c1, Option.bind_some]
  rcases c2 with ⟨rfl, _, c3, c4, _⟩ | ⟨hne, rfl, _⟩
  · have hokc : ∀ r ∈ oc, okR r = true := fun r hr => reach_ok md rq ex sw w hok hrq r ((c4 r).1 hr)
    have hol : oc.length ≤ big := by
      have := nodup_length c3 fun r hr => reach_may md rq ex sw w r ((c4 r).1 hr)
      simp only [big]; omega
    simp only at h ⊢
    rw [show (!(0 : Int) == Int.ofNat 0) = false from rfl, cond_false, F45_is md rq ex sw w rv oc hokc hol hok.hsw, Option.bind_some] at h
    rw [show (!(0 : Int) == Int.ofNat 0) = false from rfl, cond_false, F45o_is md rq ex sw w rv oc hokc hol hok.hsw, Option.bind_some]
    injection h with h
    obtain ⟨rfl, h2⟩ := Prod.mk.inj h
    obtain ⟨rfl, _⟩ := Prod.mk.inj h2
    rfl
  · have hb' : (!ec == Int.ofNat 0) = true := by
      rw [Bool.not_eq_true', ← Bool.not_eq_true]
      exact fun h => hne (by simpa using h)
    simp only [hb', cond_true] at h ⊢
    injection h with h
    obtain ⟨rfl, h2⟩ := Prod.mk.inj h
    obtain ⟨rfl, _⟩ := Prod.mk.inj h2
    rfl
end
theorem F23o_self (l : List Blt) (h : l.length ≤ big) : ∃ l', F23o (l, l, ()) = some (true, l', ()) := by
  rw [F23o_eq]
  have e1 : (!Int.ofNat l.length == Int.ofNat l.length) = false := by simp
  rw [e1, cond_false, show (Int.ofNat 0 : Int) = ((0 : Nat) : Int) from rfl, loop_row (B := B23o_0) (fun i => (l, (i : Int), l, ())) l.length (e := .inr (l, ())) (fun i hi => by
    rw [B23o_0_eq, lt_in hi, ge_zero, at_in hi, wrap_next hi (by simp only [big] at h; omega)]
    simp only [cond_true, Bool.and_self, Option.bind_some, beq_self_eq_true, Bool.not_true, cond_false]) (by
    rw [B23o_0_eq, lt_out]; rfl)]
  exact ⟨l, rfl⟩
theorem F27_self (w : List Mod) (rv : List Rev) (hw : w.length ≤ 1000) (hr : rv.length ≤ 1000) (hm : ∀ m ∈ w, m.2.1.length ≤ 1000 ∧ ∀ y ∈ m.2.1, y.reqs.length ≤ 1000) : F27 (w, rv, w, rv, ()) = some (true, ()) := by
  rw [F27_eq]
  have e1 : (!Int.ofNat w.length == Int.ofNat w.length) = false := by simp
  have e2 : (!Int.ofNat rv.length == Int.ofNat rv.length) = false := by simp
  rw [e1, e2, cond_false, cond_false, show (Int.ofNat 0 : Int) = ((0 : Nat) : Int) from rfl, loop_row (B := B27_1) (fun i => ((i : Int), w, rv, w, rv, ())) w.length (e := .inr (w, rv, w, rv, ())) (fun i hi => by
    obtain ⟨h1, h2⟩ := hm _ (List.getElem_mem hi)
    have e3 : (!Int.ofNat w[i].2.1.length == Int.ofNat w[i].2.1.length) = false := by simp
    have hin := loop_row (B := B27_0) (fun k => ((i : Int), (k : Int), w[i].2.1, Int.ofNat w[i].2.1.length, w[i].2.1, Int.ofNat w[i].2.1.length, false, w, rv, w, rv, w[i].1, w[i].2.1, w[i].1, w[i].2.1, ())) w[i].2.1.length (e := .inr ((i : Int), w[i].2.1, Int.ofNat w[i].2.1.length, w[i].2.1, Int.ofNat w[i].2.1.length, false, w, rv, w, rv, w[i].1, w[i].2.1, w[i].1, w[i].2.1, ())) (fun k hk => by
      have hq := h2 _ (List.getElem_mem hk)
      have hF := F32_self w[i].2.1[k].reqs (by omega)
      have hF' : F32 (w[i].2.1[k].2.2.2.2.1, w[i].2.1[k].2.2.2.2.1, ()) = some (true, ()) := hF
      rw [B27_0_eq, lt_in hk, ge_zero, at_in hk, wrap_next hk (by omega)]
      simp only [cond_true, Option.bind_some, beq_self_eq_true, Bool.and_self, Bool.not_true, cond_false]
      rw [hF', Option.bind_some]
      rfl) (by
      simp only
      rw [B27_0_eq, lt_out]; rfl)
    rw [B27_1_eq, lt_in hi, ge_zero, at_in hi]
    simp only [cond_true, Option.bind_some, beq_self_eq_true, Bool.not_true, cond_false]
    have hin' : loop B27_0 ((i : Int), Int.ofNat 0, w[i].2.1, Int.ofNat w[i].2.1.length, w[i].2.1, Int.ofNat w[i].2.1.length, false, w, rv, w, rv, w[i].1, w[i].2.1, w[i].1, w[i].2.1, ()) = _ := hin
    rw [hin', Option.bind_some]
    simp only [Sum.elim_inr]
    rw [wrap_next hi (by omega)]) (by
    simp only
    rw [B27_1_eq, lt_out]; rfl), Option.bind_some]
  simp only [Sum.elim_inr]
  rw [loop_row (B := B27_2) (fun i => ((i : Int), w, rv, w, rv, ())) rv.length (e := .inr ()) (fun i hi => by
    rw [B27_2_eq, lt_in hi, ge_zero, at_in hi, wrap_next hi (by omega)]
    simp only [cond_true, Option.bind_some, beq_self_eq_true, Bool.and_self, Bool.not_true, cond_false]) (by
    simp only
    rw [B27_2_eq, lt_out]; rfl), Option.bind_some]
  rfl
theorem F28_self (md : ByteArray) (rq ex : List Req) (sw : List Swp) (h1 : rq.length ≤ 1000) (h2 : ex.length ≤ 1000) (h3 : sw.length ≤ 1000) : F28 (md, rq, ex, sw, md, rq, ex, sw, ()) = some (true, ()) := by
  rw [F28_eq]
  have e1 : ∀ n : Nat, (!Int.ofNat n == Int.ofNat n) = false := fun n => by simp
  rw [e1, e1, e1]
  simp only [beq_self_eq_true, Bool.not_true, cond_false]
  rw [show (Int.ofNat 0 : Int) = ((0 : Nat) : Int) from rfl, loop_row (B := B28_0) (fun i => ((i : Int), md, rq, ex, sw, md, rq, ex, sw, ())) rq.length (e := .inr (md, rq, ex, sw, md, rq, ex, sw, ())) (fun i hi => by
    rw [B28_0_eq, lt_in hi, ge_zero, at_in hi, wrap_next hi (by omega)]
    simp only [cond_true, Option.bind_some, beq_self_eq_true, Bool.and_self, Bool.not_true, cond_false]) (by
    simp only
    rw [B28_0_eq, lt_out]; rfl), Option.bind_some]
  simp only [Sum.elim_inr]
  rw [loop_row (B := B28_1) (fun i => ((i : Int), md, rq, ex, sw, md, rq, ex, sw, ())) ex.length (e := .inr (md, rq, ex, sw, md, rq, ex, sw, ())) (fun i hi => by
    rw [B28_1_eq, lt_in hi, ge_zero, at_in hi, wrap_next hi (by omega)]
    simp only [cond_true, Option.bind_some, beq_self_eq_true, Bool.and_self, Bool.not_true, cond_false]) (by
    simp only
    rw [B28_1_eq, lt_out]; rfl), Option.bind_some]
  simp only [Sum.elim_inr]
  rw [loop_row (B := B28_2) (fun i => ((i : Int), md, rq, ex, sw, md, rq, ex, sw, ())) sw.length (e := .inr ()) (fun i hi => by
    rw [B28_2_eq, lt_in hi, ge_zero, at_in hi, wrap_next hi (by omega)]
    simp only [cond_true, Option.bind_some, beq_self_eq_true, Bool.and_self, Bool.not_true, cond_false]) (by
    simp only
    rw [B28_2_eq, lt_out]; rfl), Option.bind_some]
  rfl
end Go.Vx.Z
