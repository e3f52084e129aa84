import Derived.Test.YtildhhdbikpbaaaGreatDoorV4
set_option linter.unusedSimpArgs false
namespace Go.Vx.Z
open _root_.Int (ofNat toNat)
open IntKind (wrap)
open _root_.ByteArray (size)
open _root_.List (length)
open _root_.Sum (inl inr elim)
open Go Go.Vx Go.Proofs
set_option linter.unusedVariables false
set_option maxRecDepth 1000000
set_option maxHeartbeats 4000000
theorem B41_0_eq (x0 x1 : Nat) (x2 x3 : Int) (x4 x5 : List R8) : B41_0 (x0, x1, x2, x3, x4, x5, ()) =
 bif decide (x3 < x2) then bif decide (ofNat 0 ≤ x3) && decide (x3 < ofNat (x1 - x0)) then Option.bind x4[x0 + toNat x3]? fun y => bif decide (wrap .i64 (ofNat (length x5) - ofNat 1) ≥ ofNat 0) then bif decide (ofNat 0 ≤ wrap .i64 (ofNat (length x5) - ofNat 1)) && decide (wrap .i64 (ofNat (length x5) - ofNat 1) < ofNat (length x5)) then Option.bind x5[toNat (wrap .i64 (ofNat (length x5) - ofNat 1))]? fun y_1 => Option.bind (F40 (y.1, y.2.1, y.2.2.1, y.2.2.2.1, y.2.2.2.2.1, y.2.2.2.2.2.1, y_1.2.2.2.2.2.2.1, y_1.2.2.2.2.2.2.2.1, y_1.2.2.2.2.2.2.2.2.1, y_1.2.2.2.2.2.2.2.2.2.1, y_1.2.2.2.2.2.2.2.2.2.2.1, y_1.2.2.2.2.2.2.2.2.2.2.2.1, ())) fun r => bif decide (r.1 ≤ ofNat 0) then bif decide (ofNat 0 ≤ wrap .i64 (ofNat (length x5) - ofNat 1)) && decide (wrap .i64 (ofNat (length x5) - ofNat 1) < ofNat (length x5)) then Option.bind x5[toNat (wrap .i64 (ofNat (length x5) - ofNat 1))]? fun y_2 => Option.bind (F40 (y.2.2.2.2.2.2.1, y.2.2.2.2.2.2.2.1, y.2.2.2.2.2.2.2.2.1, y.2.2.2.2.2.2.2.2.2.1, y.2.2.2.2.2.2.2.2.2.2.1, y.2.2.2.2.2.2.2.2.2.2.2.1, y_2.2.2.2.2.2.2.1, y_2.2.2.2.2.2.2.2.1, y_2.2.2.2.2.2.2.2.2.1, y_2.2.2.2.2.2.2.2.2.2.1, y_2.2.2.2.2.2.2.2.2.2.2.1, y_2.2.2.2.2.2.2.2.2.2.2.2.1, ())) fun r => bif decide (r.1 > ofNat 0) then bif decide (ofNat 0 ≤ wrap .i64 (ofNat (length x5) - ofNat 1)) && decide (wrap .i64 (ofNat (length x5) - ofNat 1) < ofNat (length x5)) then Option.bind x5[toNat (wrap .i64 (ofNat (length x5) - ofNat 1))]? fun y_3 => some (inl (x0, x1, x2, wrap .i64 (x3 + ofNat 1), x4, List.set x5 (toNat (wrap .i64 (ofNat (length x5) - ofNat 1))) (y_3.1, y_3.2.1, y_3.2.2.1, y_3.2.2.2.1, y_3.2.2.2.2.1, y_3.2.2.2.2.2.1, y.2.2.2.2.2.2.1, y.2.2.2.2.2.2.2.1, y.2.2.2.2.2.2.2.2.1, y.2.2.2.2.2.2.2.2.2.1, y.2.2.2.2.2.2.2.2.2.2.1, y.2.2.2.2.2.2.2.2.2.2.2.1, ()), ())) else none else some (inl (x0, x1, x2, wrap .i64 (x3 + ofNat 1), x4, x5, ())) else none else bif decide (length x5 + length [(y.1, y.2.1, y.2.2.1, y.2.2.2.1, y.2.2.2.2.1, y.2.2.2.2.2.1, y.2.2.2.2.2.2.1, y.2.2.2.2.2.2.2.1, y.2.2.2.2.2.2.2.2.1, y.2.2.2.2.2.2.2.2.2.1, y.2.2.2.2.2.2.2.2.2.2.1, y.2.2.2.2.2.2.2.2.2.2.2.1, ())] ≤ 1466015503701) then some (inl (x0, x1, x2, wrap .i64 (x3 + ofNat 1), x4, x5 ++ [(y.1, y.2.1, y.2.2.1, y.2.2.2.1, y.2.2.2.2.1, y.2.2.2.2.2.1, y.2.2.2.2.2.2.1, y.2.2.2.2.2.2.2.1, y.2.2.2.2.2.2.2.2.1, y.2.2.2.2.2.2.2.2.2.1, y.2.2.2.2.2.2.2.2.2.2.1, y.2.2.2.2.2.2.2.2.2.2.2.1, ())], ())) else none else none else bif decide (length x5 + length [(y.1, y.2.1, y.2.2.1, y.2.2.2.1, y.2.2.2.2.1, y.2.2.2.2.2.1, y.2.2.2.2.2.2.1, y.2.2.2.2.2.2.2.1, y.2.2.2.2.2.2.2.2.1, y.2.2.2.2.2.2.2.2.2.1, y.2.2.2.2.2.2.2.2.2.2.1, y.2.2.2.2.2.2.2.2.2.2.2.1, ())] ≤ 1466015503701) then some (inl (x0, x1, x2, wrap .i64 (x3 + ofNat 1), x4, x5 ++ [(y.1, y.2.1, y.2.2.1, y.2.2.2.1, y.2.2.2.2.1, y.2.2.2.2.2.1, y.2.2.2.2.2.2.1, y.2.2.2.2.2.2.2.1, y.2.2.2.2.2.2.2.2.1, y.2.2.2.2.2.2.2.2.2.1, y.2.2.2.2.2.2.2.2.2.2.1, y.2.2.2.2.2.2.2.2.2.2.2.1, ())], ())) else none else none else some (inr (x4, x5, ())) := by kernel_rfl
theorem B41_1_eq (x0 x1 : Int) (x2 : List R8) (x3 : List R7) (x4 : List R8) : B41_1 (x0, x1, x2, x3, x4, ()) =
 bif decide (x1 < x0) then bif decide (ofNat 0 ≤ x1) && decide (x1 < ofNat (length x4)) then Option.bind x4[toNat x1]? fun y => bif decide (length x3 + length [(y.1, y.2.1, y.2.2.1, y.2.2.2.1, y.2.2.2.2.2.2.1, y.2.2.2.2.2.2.2.1, y.2.2.2.2.2.2.2.2.1, y.2.2.2.2.2.2.2.2.2.1, y.2.2.2.2.1, y.2.2.2.2.2.2.2.2.2.2.1, y.2.2.2.2.2.2.2.2.2.2.2.1, ())] ≤ 1599289640401) then some (inl (x0, wrap .i64 (x1 + ofNat 1), x2, x3 ++ [(y.1, y.2.1, y.2.2.1, y.2.2.2.1, y.2.2.2.2.2.2.1, y.2.2.2.2.2.2.2.1, y.2.2.2.2.2.2.2.2.1, y.2.2.2.2.2.2.2.2.2.1, y.2.2.2.2.1, y.2.2.2.2.2.2.2.2.2.2.1, y.2.2.2.2.2.2.2.2.2.2.2.1, ())], x4, ())) else none else none else some (inr (x2, x3, ())) := by kernel_rfl
theorem F41_eq (x0 : List R8) : F41 (x0, ()) =
 Option.bind (F68 (x0, ())) fun r => Option.bind (F70 (r.1, r.2.1, r.2.2.1, ())) fun r_1 => Option.bind (loop B41_0 (r.1, r.2.1, ofNat (r.2.1 - r.1), ofNat 0, r_1.1, [], ())) fun r => Option.bind (loop B41_1 (ofNat (length r.2.1), ofNat 0, r.1, [], r.2.1, ())) fun r => Option.bind (F72 (r.2.1, ())) fun r_2 => some (r_2.1, r.1, ()) := by kernel_rfl
theorem B16_0_eq (x0 : List R7) (x1 x2 x3 x4 : Int) (x5 : List R8) (x6 x7 x8 : Int) (x9 : ByteArray) (x10 x11 : Bool) (x12 x13 x14 : Int) (x15 : ByteArray) (x16 x17 : Bool) (x18 x19 : List R8) : B16_0 (x0, x1, x2, x3, x4, x5, x6, x7, x8, x9, x10, x11, x12, x13, x14, x15, x16, x17, x18, x19, ()) =
 bif decide (x4 < x3) then bif decide (ofNat 0 ≤ x4) && decide (x4 < ofNat (length x19)) then Option.bind x19[toNat x4]? fun y => Option.bind (F40 (y.1, y.2.1, y.2.2.1, y.2.2.2.1, y.2.2.2.2.1, y.2.2.2.2.2.1, x6, x7, x8, x9, x10, x11, ())) fun r => bif decide (r.1 > ofNat 0) then Option.bind (F40 (y.2.2.2.2.2.2.1, y.2.2.2.2.2.2.2.1, y.2.2.2.2.2.2.2.2.1, y.2.2.2.2.2.2.2.2.2.1, y.2.2.2.2.2.2.2.2.2.2.1, y.2.2.2.2.2.2.2.2.2.2.2.1, x12, x13, x14, x15, x16, x17, ())) fun r => bif decide (r.1 < ofNat 0) then bif decide (length x5 + length [(y.1, y.2.1, y.2.2.1, y.2.2.2.1, y.2.2.2.2.1, y.2.2.2.2.2.1, y.2.2.2.2.2.2.1, y.2.2.2.2.2.2.2.1, y.2.2.2.2.2.2.2.2.1, y.2.2.2.2.2.2.2.2.2.1, y.2.2.2.2.2.2.2.2.2.2.1, y.2.2.2.2.2.2.2.2.2.2.2.1, ())] ≤ 1466015503701) then some (inl (x0, x1, x2, x3, wrap .i64 (x4 + ofNat 1), x5 ++ [(y.1, y.2.1, y.2.2.1, y.2.2.2.1, y.2.2.2.2.1, y.2.2.2.2.2.1, y.2.2.2.2.2.2.1, y.2.2.2.2.2.2.2.1, y.2.2.2.2.2.2.2.2.1, y.2.2.2.2.2.2.2.2.2.1, y.2.2.2.2.2.2.2.2.2.2.1, y.2.2.2.2.2.2.2.2.2.2.2.1, ())], x6, x7, x8, x9, x10, x11, x12, x13, x14, x15, x16, x17, x18, x19, ())) else none else bif decide (length x5 + length [(y.1, y.2.1, y.2.2.1, y.2.2.2.1, y.2.2.2.2.1, y.2.2.2.2.2.1, x12, x13, x14, x15, x16, x17, ())] ≤ 1466015503701) then some (inl (x0, x1, x2, x3, wrap .i64 (x4 + ofNat 1), x5 ++ [(y.1, y.2.1, y.2.2.1, y.2.2.2.1, y.2.2.2.2.1, y.2.2.2.2.2.1, x12, x13, x14, x15, x16, x17, ())], x6, x7, x8, x9, x10, x11, x12, x13, x14, x15, x16, x17, x18, x19, ())) else none else Option.bind (F40 (y.2.2.2.2.2.2.1, y.2.2.2.2.2.2.2.1, y.2.2.2.2.2.2.2.2.1, y.2.2.2.2.2.2.2.2.2.1, y.2.2.2.2.2.2.2.2.2.2.1, y.2.2.2.2.2.2.2.2.2.2.2.1, x12, x13, x14, x15, x16, x17, ())) fun r => bif decide (r.1 < ofNat 0) then bif decide (length x5 + length [(x6, x7, x8, x9, x10, x11, y.2.2.2.2.2.2.1, y.2.2.2.2.2.2.2.1, y.2.2.2.2.2.2.2.2.1, y.2.2.2.2.2.2.2.2.2.1, y.2.2.2.2.2.2.2.2.2.2.1, y.2.2.2.2.2.2.2.2.2.2.2.1, ())] ≤ 1466015503701) then some (inl (x0, x1, x2, x3, wrap .i64 (x4 + ofNat 1), x5 ++ [(x6, x7, x8, x9, x10, x11, y.2.2.2.2.2.2.1, y.2.2.2.2.2.2.2.1, y.2.2.2.2.2.2.2.2.1, y.2.2.2.2.2.2.2.2.2.1, y.2.2.2.2.2.2.2.2.2.2.1, y.2.2.2.2.2.2.2.2.2.2.2.1, ())], x6, x7, x8, x9, x10, x11, x12, x13, x14, x15, x16, x17, x18, x19, ())) else none else bif decide (length x5 + length [(x6, x7, x8, x9, x10, x11, x12, x13, x14, x15, x16, x17, ())] ≤ 1466015503701) then some (inl (x0, x1, x2, x3, wrap .i64 (x4 + ofNat 1), x5 ++ [(x6, x7, x8, x9, x10, x11, x12, x13, x14, x15, x16, x17, ())], x6, x7, x8, x9, x10, x11, x12, x13, x14, x15, x16, x17, x18, x19, ())) else none else none else some (inr (x0, x1, x2, x5, x18, ())) := by kernel_rfl
theorem B16_1_eq (x0 : List R7) (x1 x2 : Int) (x3 x4 : List R8) : B16_1 (x0, x1, x2, x3, x4, ()) =
 bif decide (x2 < x1) then bif decide (ofNat 0 ≤ x2) && decide (x2 < ofNat (length x4)) then Option.bind x4[toNat x2]? fun y => Option.bind (F39 (x0, ())) fun r => Option.bind (loop B16_0 (x0, x1, x2, ofNat (length r.1), ofNat 0, x3, y.1, y.2.1, y.2.2.1, y.2.2.2.1, y.2.2.2.2.1, y.2.2.2.2.2.1, y.2.2.2.2.2.2.1, y.2.2.2.2.2.2.2.1, y.2.2.2.2.2.2.2.2.1, y.2.2.2.2.2.2.2.2.2.1, y.2.2.2.2.2.2.2.2.2.2.1, y.2.2.2.2.2.2.2.2.2.2.2.1, x4, r.1, ())) fun r => some (inl (r.1, r.2.1, wrap .i64 (r.2.2.1 + ofNat 1), r.2.2.2.1, r.2.2.2.2.1, ())) else none else some (inr (x3, ())) := by kernel_rfl
theorem F16_eq (x0 x1 : List R7) : F16 (x0, x1, ()) =
 Option.bind (F39 (x0, ())) fun r => Option.bind (loop B16_1 (x1, ofNat (length r.1), ofNat 0, [], r.1, ())) fun r => Option.bind (F41 (r.1, ())) fun r => some (r.1, ()) := by kernel_rfl
theorem F17_eq (x0 : List (List R7)) : F17 (x0, ()) =
 Option.bind (F42 (x0, ())) fun r => Option.bind (F39v1 (r.1, ())) fun r => Option.bind (F41 (r.2.1, ())) fun r => some (r.1, ()) := by kernel_rfl
theorem B18_0_eq (x0 x1 x2 x3 x4 : Int) (x5 : ByteArray) (x6 x7 : Bool) (x8 x9 : List R8) : B18_0 (x0, x1, x2, x3, x4, x5, x6, x7, x8, x9, ()) =
 bif decide (x1 < x0) then bif decide (ofNat 0 ≤ x1) && decide (x1 < ofNat (length x9)) then Option.bind x9[toNat x1]? fun y => bif decide (length x8 + length [(x2, x3, x4, x5, x6, x7, y.1, y.2.1, y.2.2.1, y.2.2.2.1, y.2.2.2.2.1, y.2.2.2.2.2.1, ())] ≤ 1466015503701) then some (inl (x0, wrap .i64 (x1 + ofNat 1), y.2.2.2.2.2.2.1, y.2.2.2.2.2.2.2.1, y.2.2.2.2.2.2.2.2.1, y.2.2.2.2.2.2.2.2.2.1, y.2.2.2.2.2.2.2.2.2.2.1, y.2.2.2.2.2.2.2.2.2.2.2.1, x8 ++ [(x2, x3, x4, x5, x6, x7, y.1, y.2.1, y.2.2.1, y.2.2.2.1, y.2.2.2.2.1, y.2.2.2.2.2.1, ())], x9, ())) else none else none else some (inr (x2, x3, x4, x5, x6, x7, x8, ())) := by kernel_rfl
theorem F18_eq (x0 : List R7) : F18 (x0, ()) =
 Option.bind (F43 ()) fun r => Option.bind (F39 (x0, ())) fun r_1 => Option.bind (loop B18_0 (ofNat (length r_1.1), ofNat 0, r.1, r.2.1, r.2.2.1, r.2.2.2.1, false, false, [], r_1.1, ())) fun r => bif decide (length r.2.2.2.2.2.2.1 + length [(r.1, r.2.1, r.2.2.1, r.2.2.2.1, r.2.2.2.2.1, r.2.2.2.2.2.1, ofNat 0, ofNat 0, ofNat 0, (lit []), false, true, ())] ≤ 1466015503701) then Option.bind (F41 (r.2.2.2.2.2.2.1 ++ [(r.1, r.2.1, r.2.2.1, r.2.2.2.1, r.2.2.2.2.1, r.2.2.2.2.2.1, ofNat 0, ofNat 0, ofNat 0, (lit []), false, true, ())], ())) fun r => some (r.1, ()) else none := by kernel_rfl
theorem F81_eq (x0 x1 x2 : Int) (x3 : ByteArray) (x4 x5 : Bool) (x6 x7 x8 : Int) (x9 : ByteArray) (x10 x11 : Bool) : F81 (x0, x1, x2, x3, x4, x5, x6, x7, x8, x9, x10, x11, ()) =
 Option.bind (F41 ([(x0, x1, x2, x3, x4, x5, x6, x7, x8, x9, x10, x11, ())], ())) fun r => some (r.1, ()) := by kernel_rfl
theorem B98_0_eq (x0 x1 : List ByteArray) (x2 x3 x4 x5 : Int) : B98_0 (x0, x1, x2, x3, x4, x5, ()) =
 bif decide (x3 < x2) then bif decide (ofNat 0 ≤ x3) then Option.bind x1[toNat x3]? fun y => Option.bind (F103 (y, ())) fun r => bif !r.2.1 then some (inr (inl (false, ()))) else bif decide (r.1 > ofNat 999999) then some (inr (inl (false, ()))) else bif x3 == ofNat 0 then some (inl (x0, x1, x2, wrap .i64 (x3 + ofNat 1), r.1, x5, ())) else bif x3 == ofNat 1 then some (inl (x0, x1, x2, wrap .i64 (x3 + ofNat 1), x4, r.1, ())) else none else none else some (inr (inr (x0, x4, x5, ()))) := by kernel_rfl
theorem F98_eq (x0 : ByteArray) : F98 (x0, ()) =
 Option.bind (F131 (x0, (lit [46, 120]), ())) fun r => Option.bind (F100 (r.1, (lit [118]), ())) fun r_1 => Option.bind (F102 (r_1.1, (lit [46]), ())) fun r_2 => bif !r.2.1 then some ([], false, ()) else bif !r_1.2.1 then some ([], false, ()) else bif decide (ofNat (length r_2.1) > ofNat 2) then some ([], false, ()) else Option.bind (loop B98_0 (r_2.1, r_2.1, ofNat (length r_2.1), ofNat 0, ofNat 0, ofNat 0, ())) fun r => elim (fun p => some ([], p.1, ())) (fun p => Option.bind (F132 (p.2.1, p.2.2.1, ofNat 0, (lit [48]), wrap .i64 (ofNat (length p.1) - ofNat 1), ())) fun r => Option.bind (F81 (p.2.1, p.2.2.1, ofNat 0, (lit [48]), false, false, r.1, r.2.1, r.2.2.1, r.2.2.2.1, r.2.2.2.2.1, r.2.2.2.2.2.1, ())) fun r => some (r.1, true, ())) r := by kernel_rfl
theorem F99_eq (x0 : ByteArray) : F99 (x0, ()) =
 Option.bind (F133 (x0, ofNat 118, ())) fun r => bif decide (r.1 < ofNat 0) then some ([], false, ()) else bif decide (ofNat 0 ≤ r.1) && (decide (r.1 ≤ ofNat (size x0)) && decide (ofNat (size x0) ≤ ofNat (size x0))) then Option.bind (F80 (ByteArray.extract x0 (toNat r.1) (toNat (ofNat (size x0))), ())) fun r_1 => bif !r_1.2.2.2.2.1 then some ([], false, ()) else bif decide (ofNat 0 ≤ r.1) && decide (r.1 ≤ ofNat (size x0)) then bif bl (ByteArray.extract x0 0 (toNat r.1)) == [] then bif bl (ByteArray.extract x0 0 (toNat r.1)) == [] then Option.bind (F81 (r_1.1, r_1.2.1, r_1.2.2.1, r_1.2.2.2.1, false, false, r_1.1, r_1.2.1, r_1.2.2.1, r_1.2.2.2.1, true, false, ())) fun r => some (r.1, true, ()) else bif bl (ByteArray.extract x0 0 (toNat r.1)) == [33, 61] then Option.bind (F81 (r_1.1, r_1.2.1, r_1.2.2.1, r_1.2.2.2.1, false, false, r_1.1, r_1.2.1, r_1.2.2.1, r_1.2.2.2.1, true, false, ())) fun r => Option.bind (F18 (r.1, ())) fun r => some (r.1, true, ()) else bif bl (ByteArray.extract x0 0 (toNat r.1)) == [62] then Option.bind (F134 ()) fun r => Option.bind (F81 (r_1.1, r_1.2.1, r_1.2.2.1, r_1.2.2.2.1, true, false, r.1, r.2.1, r.2.2.1, r.2.2.2.1, r.2.2.2.2.1, r.2.2.2.2.2.1, ())) fun r => some (r.1, true, ()) else bif bl (ByteArray.extract x0 0 (toNat r.1)) == [62, 61] then Option.bind (F134 ()) fun r => Option.bind (F81 (r_1.1, r_1.2.1, r_1.2.2.1, r_1.2.2.2.1, false, false, r.1, r.2.1, r.2.2.1, r.2.2.2.1, r.2.2.2.2.1, r.2.2.2.2.2.1, ())) fun r => some (r.1, true, ()) else bif bl (ByteArray.extract x0 0 (toNat r.1)) == [60] then Option.bind (F135 ()) fun r => Option.bind (F81 (r.1, r.2.1, r.2.2.1, r.2.2.2.1, r.2.2.2.2.1, r.2.2.2.2.2.1, r_1.1, r_1.2.1, r_1.2.2.1, r_1.2.2.2.1, false, false, ())) fun r => some (r.1, true, ()) else bif bl (ByteArray.extract x0 0 (toNat r.1)) == [60, 61] then Option.bind (F135 ()) fun r => Option.bind (F81 (r.1, r.2.1, r.2.2.1, r.2.2.2.1, r.2.2.2.2.1, r.2.2.2.2.2.1, r_1.1, r_1.2.1, r_1.2.2.1, r_1.2.2.2.1, true, false, ())) fun r => some (r.1, true, ()) else bif bl (ByteArray.extract x0 0 (toNat r.1)) == [94] then Option.bind (F136 (r_1.1, r_1.2.1, r_1.2.2.1, r_1.2.2.2.1, ())) fun r => Option.bind (F81 (r_1.1, r_1.2.1, r_1.2.2.1, r_1.2.2.2.1, false, false, r.1, r.2.1, r.2.2.1, r.2.2.2.1, r.2.2.2.2.1, r.2.2.2.2.2.1, ())) fun r => some (r.1, true, ()) else bif bl (ByteArray.extract x0 0 (toNat r.1)) == [126] then Option.bind (F132 (r_1.1, r_1.2.1, r_1.2.2.1, r_1.2.2.2.1, ofNat 1, ())) fun r => Option.bind (F81 (r_1.1, r_1.2.1, r_1.2.2.1, r_1.2.2.2.1, false, false, r.1, r.2.1, r.2.2.1, r.2.2.2.1, r.2.2.2.2.1, r.2.2.2.2.2.1, ())) fun r => some (r.1, true, ()) else some ([], false, ()) else bif bl (ByteArray.extract x0 0 (toNat r.1)) == [61] then Option.bind (F81 (r_1.1, r_1.2.1, r_1.2.2.1, r_1.2.2.2.1, false, false, r_1.1, r_1.2.1, r_1.2.2.1, r_1.2.2.2.1, true, false, ())) fun r => some (r.1, true, ()) else bif bl (ByteArray.extract x0 0 (toNat r.1)) == [33, 61] then Option.bind (F81 (r_1.1, r_1.2.1, r_1.2.2.1, r_1.2.2.2.1, false, false, r_1.1, r_1.2.1, r_1.2.2.1, r_1.2.2.2.1, true, false, ())) fun r => Option.bind (F18 (r.1, ())) fun r => some (r.1, true, ()) else bif bl (ByteArray.extract x0 0 (toNat r.1)) == [62] then Option.bind (F134 ()) fun r => Option.bind (F81 (r_1.1, r_1.2.1, r_1.2.2.1, r_1.2.2.2.1, true, false, r.1, r.2.1, r.2.2.1, r.2.2.2.1, r.2.2.2.2.1, r.2.2.2.2.2.1, ())) fun r => some (r.1, true, ()) else bif bl (ByteArray.extract x0 0 (toNat r.1)) == [62, 61] then Option.bind (F134 ()) fun r => Option.bind (F81 (r_1.1, r_1.2.1, r_1.2.2.1, r_1.2.2.2.1, false, false, r.1, r.2.1, r.2.2.1, r.2.2.2.1, r.2.2.2.2.1, r.2.2.2.2.2.1, ())) fun r => some (r.1, true, ()) else bif bl (ByteArray.extract x0 0 (toNat r.1)) == [60] then Option.bind (F135 ()) fun r => Option.bind (F81 (r.1, r.2.1, r.2.2.1, r.2.2.2.1, r.2.2.2.2.1, r.2.2.2.2.2.1, r_1.1, r_1.2.1, r_1.2.2.1, r_1.2.2.2.1, false, false, ())) fun r => some (r.1, true, ()) else bif bl (ByteArray.extract x0 0 (toNat r.1)) == [60, 61] then Option.bind (F135 ()) fun r => Option.bind (F81 (r.1, r.2.1, r.2.2.1, r.2.2.2.1, r.2.2.2.2.1, r.2.2.2.2.2.1, r_1.1, r_1.2.1, r_1.2.2.1, r_1.2.2.2.1, true, false, ())) fun r => some (r.1, true, ()) else bif bl (ByteArray.extract x0 0 (toNat r.1)) == [94] then Option.bind (F136 (r_1.1, r_1.2.1, r_1.2.2.1, r_1.2.2.2.1, ())) fun r => Option.bind (F81 (r_1.1, r_1.2.1, r_1.2.2.1, r_1.2.2.2.1, false, false, r.1, r.2.1, r.2.2.1, r.2.2.2.1, r.2.2.2.2.1, r.2.2.2.2.2.1, ())) fun r => some (r.1, true, ()) else bif bl (ByteArray.extract x0 0 (toNat r.1)) == [126] then Option.bind (F132 (r_1.1, r_1.2.1, r_1.2.2.1, r_1.2.2.2.1, ofNat 1, ())) fun r => Option.bind (F81 (r_1.1, r_1.2.1, r_1.2.2.1, r_1.2.2.2.1, false, false, r.1, r.2.1, r.2.2.1, r.2.2.2.1, r.2.2.2.2.1, r.2.2.2.2.2.1, ())) fun r => some (r.1, true, ()) else some ([], false, ()) else none else none := by kernel_rfl
theorem F79_eq (x0 : ByteArray) : F79 (x0, ()) =
 bif bl x0 == [42] then Option.bind (F77 ()) fun r => some (r.1, true, ()) else Option.bind (F98 (x0, ())) fun r => bif r.2.1 then some (r.1, true, ()) else Option.bind (F99 (x0, ())) fun r => some (r.1, r.2.1, ()) := by kernel_rfl
theorem B51_0_eq (x0 : List R7) (x1 : Bool) (x2 : Int) (x3 x4 : ByteArray) (x5 : Int) (x6 : ByteArray) (x7 : Int) : B51_0 (x0, x1, x2, x3, x4, x5, x6, x7, ()) =
 bif x1 then Option.bind (F79 (x4, ())) fun r => bif !r.2.1 then some (inr (inl ([], false, x3, x4, x5, x6, x7, ()))) else Option.bind (F80 (x4, ())) fun r_1 => Option.bind (F78 (x3, x4, x5, x6, x7, ())) fun r_2 => bif r_1.2.2.2.2.1 then bif r_2.1 then bif bl r_2.2.2.1 == [45] then Option.bind (F78 (r_2.2.1, r_2.2.2.1, r_2.2.2.2.1, r_2.2.2.2.2.1, r_2.2.2.2.2.2.1, ())) fun r => bif !r.1 then some (inr (inl ([], false, r.2.1, r.2.2.1, r.2.2.2.1, r.2.2.2.2.1, r.2.2.2.2.2.1, ()))) else Option.bind (F80 (r.2.2.1, ())) fun r_3 => bif !r_3.2.2.2.2.1 then some (inr (inl ([], false, r.2.1, r.2.2.1, r.2.2.2.1, r.2.2.2.2.1, r.2.2.2.2.2.1, ()))) else Option.bind (F81 (r_1.1, r_1.2.1, r_1.2.2.1, r_1.2.2.2.1, false, false, r_3.1, r_3.2.1, r_3.2.2.1, r_3.2.2.2.1, true, false, ())) fun r_4 => Option.bind (F78 (r.2.1, r.2.2.1, r.2.2.2.1, r.2.2.2.2.1, r.2.2.2.2.2.1, ())) fun r => Option.bind (F16 (x0, r_4.1, ())) fun r_5 => bif !r.1 then some (inr (inl (r_5.1, true, r.2.1, r.2.2.1, r.2.2.2.1, r.2.2.2.2.1, r.2.2.2.2.2.1, ()))) else some (inl (r_5.1, r.1, wrap .i64 (x2 + ofNat 1), r.2.1, r.2.2.1, r.2.2.2.1, r.2.2.2.2.1, r.2.2.2.2.2.1, ())) else Option.bind (F16 (x0, r.1, ())) fun r => bif !r_2.1 then some (inr (inl (r.1, true, r_2.2.1, r_2.2.2.1, r_2.2.2.2.1, r_2.2.2.2.2.1, r_2.2.2.2.2.2.1, ()))) else some (inl (r.1, r_2.1, wrap .i64 (x2 + ofNat 1), r_2.2.1, r_2.2.2.1, r_2.2.2.2.1, r_2.2.2.2.2.1, r_2.2.2.2.2.2.1, ())) else Option.bind (F16 (x0, r.1, ())) fun r => bif !r_2.1 then some (inr (inl (r.1, true, r_2.2.1, r_2.2.2.1, r_2.2.2.2.1, r_2.2.2.2.2.1, r_2.2.2.2.2.2.1, ()))) else some (inl (r.1, r_2.1, wrap .i64 (x2 + ofNat 1), r_2.2.1, r_2.2.2.1, r_2.2.2.2.1, r_2.2.2.2.2.1, r_2.2.2.2.2.2.1, ())) else Option.bind (F16 (x0, r.1, ())) fun r => bif !r_2.1 then some (inr (inl (r.1, true, r_2.2.1, r_2.2.2.1, r_2.2.2.2.1, r_2.2.2.2.2.1, r_2.2.2.2.2.2.1, ()))) else some (inl (r.1, r_2.1, wrap .i64 (x2 + ofNat 1), r_2.2.1, r_2.2.2.1, r_2.2.2.2.1, r_2.2.2.2.2.1, r_2.2.2.2.2.2.1, ())) else some (inr (inr (x3, x4, x5, x6, x7, ()))) := by kernel_rfl
theorem F51_eq (x0 x1 : ByteArray) (x2 : Int) (x3 : ByteArray) (x4 : Int) : F51 (x0, x1, x2, x3, x4, ()) =
 Option.bind (F77 ()) fun r => Option.bind (F78 (x0, x1, x2, x3, x4, ())) fun r_1 => Option.bind (loop B51_0 (r.1, r_1.1, ofNat 0, r_1.2.1, r_1.2.2.1, r_1.2.2.2.1, r_1.2.2.2.2.1, r_1.2.2.2.2.2.1, ())) fun r => elim (fun p => some (p.1, p.2.1, p.2.2.1, p.2.2.2.1, p.2.2.2.2.1, p.2.2.2.2.2.1, p.2.2.2.2.2.2.1, ())) (fun p => some ([], false, p.1, p.2.1, p.2.2.1, p.2.2.2.1, p.2.2.2.2.1, ())) r := by kernel_rfl
theorem B30_0_eq (x0 : ByteArray) (x1 : List R7) (x2 x3 : ByteArray) (x4 : Int) (x5 : ByteArray) (x6 : Int) : B30_0 (x0, x1, x2, x3, x4, x5, x6, ()) =
 Option.bind (F51 (x2, x3, x4, x5, x6, ())) fun r => bif !r.2.1 then some (inr ([], r.2.2.2.2.1, ofNat 6, ())) else Option.bind (F17 ([x1, r.1], ())) fun r_1 => bif r.2.2.2.2.1 == ofNat (size x0) then some (inr (r_1.1, ofNat 0, ofNat 0, ())) else Option.bind (F52 ((lit [124, 124]), r.2.2.2.2.2.1, r.2.2.2.2.2.2.1, ())) fun r_2 => bif !r_2.1 then some (inr ([], wrap .i64 (r.2.2.2.2.1 + ofNat 1), ofNat 6, ())) else some (inl (x0, r_1.1, r.2.2.1, r.2.2.2.1, r.2.2.2.2.1, r_2.2.1, r_2.2.2.1, ())) := by kernel_rfl
theorem F30_eq (x0 : ByteArray) : F30 (x0, ()) =
 Option.bind (F50 (x0, ())) fun r => Option.bind (loop B30_0 (x0, [], x0, (lit []), ofNat 0, r.1, r.2.1, ())) fun r => some (r.1, r.2.1, r.2.2.1, ()) := by kernel_rfl
end Go.Vx.Z
/-! span: pieces, normed. -/
namespace Go.Vx.Z
open Go Go.Vx
set_option linter.unusedVariables false
abbrev big : Nat := 1099511627776
def Span.lo (s : Span) : Ver := (s.1, s.2.1, s.2.2.1, s.2.2.2.1, ())
def Span.hi (s : Span) : Ver := (s.2.2.2.2.1, s.2.2.2.2.2.1, s.2.2.2.2.2.2.1, s.2.2.2.2.2.2.2.1, ())
def Span.above (s : Span) : Bool := s.2.2.2.2.2.2.2.2.1
def Span.isIn (s : Span) : Bool := s.2.2.2.2.2.2.2.2.2.1
def Span.op (s : Span) : Bool := s.2.2.2.2.2.2.2.2.2.2.1
def pieceOf (y : Span) : Piece := bif y.2.2.2.2.2.2.2.2.2.2.1 then (y.1, y.2.1, y.2.2.1, y.2.2.2.1, y.2.2.2.2.2.2.2.2.1, false, Int.ofNat 0, Int.ofNat 0, Int.ofNat 0, (lit []), false, true, ())
 else (y.1, y.2.1, y.2.2.1, y.2.2.2.1, y.2.2.2.2.2.2.2.2.1, false, y.2.2.2.2.1, y.2.2.2.2.2.1, y.2.2.2.2.2.2.1, y.2.2.2.2.2.2.2.1, y.2.2.2.2.2.2.2.2.2.1, false, ())
theorem one_le {α : Type} {b : List α} {N : Nat} (z : α) (h : b.length < N) : decide (b.length + List.length [z] ≤ N) = true := by simp; omega
theorem F39_is (l : List Span) (hl : l.length ≤ big) : F39 (l, ()) = some (l.map pieceOf, ()) := by
 rw [F39_eq]
 have := loop_map (B := B39_0) l (fun i b => (l, Int.ofNat l.length, (i : Int), b, ())) pieceOf (fun b => (b, ())) (fun i h b hb => by
  rw [B39_0_eq]
  simp only [lt_in h, cond_true, ge_zero, at_in h, Option.bind_some, wrap_next h (by simp only [big] at hl; omega), one_le _ (show b.length < 1466015503701 by simp only [big] at hl; omega)]
  unfold pieceOf
  cases l[i].2.2.2.2.2.2.2.2.2.2.1 <;> rfl) (fun b hb => by
  rw [B39_0_eq]
  simp only [lt_out, cond_false])
 have h0 : loop B39_0 (l, Int.ofNat l.length, Int.ofNat 0, [], ()) = some (l.map pieceOf, ()) := this
 rw [h0]
 rfl
theorem F39v1_is (l : List Span) (hl : l.length ≤ big) : F39v1 (l, ()) = some (l, l.map pieceOf, ()) := by
 rw [F39v1_eq]
 have := loop_map (B := B39v1_0) l (fun i b => (Int.ofNat l.length, (i : Int), l, b, ())) pieceOf (fun b => (l, b, ())) (fun i h b hb => by
  rw [B39v1_0_eq]
  simp only [lt_in h, cond_true, ge_zero, Bool.and_self, at_in h, Option.bind_some, wrap_next h (by simp only [big] at hl; omega), one_le _ (show b.length < 1466015503701 by simp only [big] at hl; omega)]
  unfold pieceOf
  cases l[i].2.2.2.2.2.2.2.2.2.2.1 <;> rfl) (fun b hb => by
  rw [B39v1_0_eq]
  simp only [lt_out, cond_false])
 have h0 : loop B39v1_0 (Int.ofNat l.length, Int.ofNat 0, l, [], ()) = some (l, l.map pieceOf, ()) := this
 rw [h0]
 rfl
def dead (p : Piece) : Bool := !decide (p.fp < p.tp)
theorem F69_is (p : Piece) (h : okPc p = true) : F69 (p.1, p.2.1, p.2.2.1, p.2.2.2.1, p.2.2.2.2.1, p.2.2.2.2.2.1, p.2.2.2.2.2.2.1, p.2.2.2.2.2.2.2.1, p.2.2.2.2.2.2.2.2.1, p.2.2.2.2.2.2.2.2.2.1, p.2.2.2.2.2.2.2.2.2.2.1, p.2.2.2.2.2.2.2.2.2.2.2.1, ()) = some (dead p, ()) := by
 simp only [okPc, Bool.and_eq_true] at h
 rw [F69_eq]
 have := F40_is p.fv p.tv p.fb p.fe p.tb p.te h.1 h.2
 simp only [Piece.fv, Piece.tv, Piece.fb, Piece.fe, Piece.tb, Piece.te] at this
 rw [this]
 have key : ∀ c : Int, decide (c ≥ Int.ofNat 0) = !decide (c < 0) := fun c => by
  by_cases h : c < 0
  ·have h2 : ¬ c ≥ Int.ofNat 0 := by intro h3; have : (0 : Int) ≤ c := h3; omega
   rw [decide_eq_true h, decide_eq_false h2]; rfl
  ·have h2 : c ≥ Int.ofNat 0 := by show (0 : Int) ≤ c; omega
   rw [decide_eq_false h, decide_eq_true h2]; rfl
 simp only [Option.bind_some, key]
 rfl
theorem F74_is (l : List Piece) (hp : ∀ p ∈ l, okPc p = true) (hl : l.length ≤ big) : F74 (l, ()) = some (if l.findIdx dead < l.length then (l.findIdx dead : Int) else -1, l, ()) := by
 rw [F74_eq]
 have := loop_at (B := B74_0) l (fun i => (Int.ofNat l.length, (i : Int), l, ())) dead (fun i => .inl ((i : Int), l, ())) (.inr (l, ())) (fun i h => by
  rw [B74_0_eq]
  simp only [lt_in h, cond_true, ge_zero, Bool.and_self, at_in h, Option.bind_some, wrap_next h (by simp only [big] at hl; omega)]
  rw [F69_is _ (hp _ (List.getElem_mem h))]
  simp only [Option.bind_some]
  cases dead l[i] <;> rfl) (by
  rw [B74_0_eq]
  simp only [lt_out, cond_false])
 have h0 : loop B74_0 (Int.ofNat l.length, Int.ofNat 0, l, ()) = _ := this
 rw [h0]
 simp only [Option.bind_some]
 split <;> rfl
def full (p : Piece) : Bool := !dead p
theorem set_take {α : Type} {r : List α} {i : Nat} (z : α) (h : i < r.length) : (r.set i z).take (i + 1) = r.take i ++ [z] := by
 rw [List.take_succ_eq_append_getElem (by rw [List.length_set]; exact h), List.take_set_of_le (Nat.le_refl _)]
 simp
theorem B68_is (l : List Piece) (hp : ∀ p ∈ l, okPc p = true) (hl : l.length ≤ big) (k : Nat) (hk : k < l.length) (hd : dead l[k] = true) (hf : ∀ p ∈ l.take k, full p = true) :
  ∃ r : List Piece, loop B68_0 ((k : Int), ((k + 1 : Nat) : Int), l, ()) = some ((((l.filter full).length : Nat) : Int), r, ()) ∧ r.take (l.filter full).length = l.filter full ∧ r.length = l.length := by
 obtain ⟨b, h1, h2, h3, h4, h5⟩ := loop_upto (B := B68_0) l.length (fun j (b : Nat × List Piece) => ((b.1 : Int), (j : Int), b.2, ())) (fun b => ((b.1 : Int), b.2, ()))
  (fun j b => b.1 < j ∧ b.2.length = l.length ∧ b.2.take b.1 = (l.take j).filter full ∧ b.2.drop j = l.drop j)
  (fun j hj b ⟨i1, i2, i3, i4⟩ => by
   obtain ⟨i, r⟩ := b
   simp only at i1 i2 i3 i4
   have hjr : j < r.length := by omega
   have hrj : r[j] = l[j] := by
    have e1 := List.drop_eq_getElem_cons hjr
    have e2 := List.drop_eq_getElem_cons hj
    rw [i4, e2] at e1
    injection e1 with e1 _
    exact e1.symm
   have hdrop : r.drop (j + 1) = l.drop (j + 1) := by rw [← List.drop_drop, ← List.drop_drop, i4]
   have htake : (l.take (j + 1)).filter full = (l.take j).filter full ++ [l[j]].filter full := by
    rw [List.take_succ_eq_append_getElem hj, List.filter_append]
   have hw := wrap_next (i := j) (n := l.length) hj (by simp only [big] at hl; omega)
   simp only
   rw [B68_0_eq]
   simp only [lt_in hjr, cond_true, ge_zero, Bool.and_self, at_in hjr, Option.bind_some, hrj]
   rw [F69_is _ (hp _ (List.getElem_mem hj))]
   simp only [Option.bind_some, hw]
   cases hc : dead l[j] with
   | true =>
    simp only [Bool.not_true, cond_false]
    refine ⟨(i, r), rfl, by simp only; omega, i2, ?_, hdrop⟩
    rw [htake, i3]
    simp [full, hc]
   | false =>
    have hir : i < r.length := by omega
    simp only [Bool.not_false, cond_true, lt_in hir, ge_zero, Bool.and_self, at_in hir, Option.bind_some, wrap_next (i := i) (n := l.length) (by omega) (by simp only [big] at hl; omega), Int.toNat_natCast, List.getElem?_eq_getElem hir]
    refine ⟨(i + 1, r.set i l[j]), rfl, by simp only; omega, by simp [i2], ?_, ?_⟩
    ·simp only
     rw [set_take _ hir, i3, htake]
     simp [full, hc]
    ·simp only
     rw [List.drop_set_of_lt (by omega), hdrop])
  (fun b ⟨i1, i2, i3, i4⟩ => by
   rw [B68_0_eq]
   have : Int.ofNat b.2.length = Int.ofNat l.length := by rw [i2]
   simp only [this, lt_out, cond_false])
  (k + 1) (k, l) (by omega) ⟨by simp only; omega, rfl, by
   rw [List.take_succ_eq_append_getElem hk, List.filter_append, List.filter_eq_self.2 hf]
   simp [full, hd], rfl⟩
 rw [List.take_length] at h4
 have hb : b.1 = (l.filter full).length := by rw [← h4, List.length_take]; omega
 refine ⟨b.2, ?_, by rw [← hb]; exact h4, h3⟩
 rw [← hb]
 exact h1
theorem F68_is (l : List Piece) (hp : ∀ p ∈ l, okPc p = true) (hl : l.length ≤ big) : ∃ r : List Piece, F68 (l, ()) = some (0, (l.filter full).length, r, ()) ∧ r.take (l.filter full).length = l.filter full ∧ (l.filter full).length ≤ r.length := by
 rw [F68_eq, F74_is l hp hl]
 simp only [Option.bind_some]
 by_cases h : l.findIdx dead < l.length
 ·rw [if_pos h]
  have h1 : ((l.findIdx dead : Int) == Int.negSucc 0) = false := by simp
  rw [h1]
  simp only [cond_false]
  have hd : dead l[l.findIdx dead] = true := List.findIdx_getElem (w := h)
  obtain ⟨r, h2, h3, h4⟩ := B68_is l hp hl _ h hd (fun p hp' => by
   obtain ⟨i, hi, he⟩ := List.getElem_of_mem hp'
   rw [List.getElem_take] at he
   rw [List.length_take] at hi
   have := List.not_of_lt_findIdx (p := dead) (xs := l) (i := i) (by omega)
   subst he
   simpa [full] using this)
  have hw := wrap_next (i := l.findIdx dead) (n := l.length) h (by simp only [big] at hl; omega)
  rw [hw, h2]
  simp only [Option.bind_some]
  have hle : (l.filter full).length ≤ l.length := List.length_filter_le _ _
  generalize hn : (l.filter full).length = n at *
  have hz : (0 + Int.toNat (Int.ofNat r.length) - (0 + Int.toNat (n : Int))) = r.length - n := by simp
  have hlen : (List.take (0 + Int.toNat (n : Int)) r ++ List.replicate (0 + Int.toNat (Int.ofNat r.length) - (0 + Int.toNat (n : Int))) ((Int.ofNat 0, Int.ofNat 0, Int.ofNat 0, (lit []), false, false, Int.ofNat 0, Int.ofNat 0, Int.ofNat 0, (lit []), false, false, ()) : R8) ++ List.drop (0 + Int.toNat (n : Int) + (0 + Int.toNat (Int.ofNat r.length) - (0 + Int.toNat (n : Int)))) r).length = r.length := by
   rw [hz]
   simp only [List.length_append, List.length_take, List.length_replicate, List.length_drop, Int.toNat_natCast]
   omega
  rw [hlen]
  have e1 : (decide (Int.ofNat 0 ≤ (n : Int)) && (decide ((n : Int) ≤ Int.ofNat r.length) && (decide (Int.ofNat r.length ≤ Int.ofNat r.length) && decide (Int.ofNat r.length ≤ Int.ofNat r.length)))) = true := by simp <;> omega
  simp only [e1, cond_true]
  have e2 : (decide (Int.ofNat 0 ≤ (n : Int)) && (decide ((n : Int) ≤ Int.ofNat r.length) && decide (Int.ofNat r.length ≤ Int.ofNat r.length))) = true := by simp <;> omega
  simp only [e2, cond_true]
  have e3 : 0 + Int.toNat (n : Int) = n := by simp
  simp only [e3] at hlen ⊢
  refine ⟨_, rfl, ?_, by rw [hlen]; omega⟩
  have : (List.take n r).length = n := by simp; omega
  rw [List.append_assoc, List.take_append_of_le_length (by omega), List.take_take, Nat.min_self]
  exact h3
 ·rw [if_neg h]
  have hall : l.filter full = l := List.filter_eq_self.2 fun p hp' => by
   cases hc : dead p with
   | false => simp [full, hc]
   | true => exact absurd (List.findIdx_lt_length_of_exists ⟨p, hp', hc⟩) h
  refine ⟨l, ?_, by rw [hall, List.take_length], by rw [hall]; exact Nat.le_refl _⟩
  rw [hall]
  rfl
end Go.Vx.Z
/-! span: normed. -/
namespace Go.Vx.Z
open Go Go.Vx
set_option linter.unusedVariables false
def okP (p : Piece) : Prop := okPc p = true ∧ (p.te = true → p.tv = v0 ∧ p.tb = false)
def good (p : Piece) : Prop := okP p ∧ p.fe = false
def setTo (q p : Piece) : Piece := (q.1, q.2.1, q.2.2.1, q.2.2.2.1, q.2.2.2.2.1, q.2.2.2.2.2.1, p.2.2.2.2.2.2.1, p.2.2.2.2.2.2.2.1, p.2.2.2.2.2.2.2.2.1, p.2.2.2.2.2.2.2.2.2.1, p.2.2.2.2.2.2.2.2.2.2.1, p.2.2.2.2.2.2.2.2.2.2.2.1, ())
def mrgD (acc : List Piece) (p : Piece) : List Piece := match acc.getLast? with
 | none => acc ++ [p]
 | some q => if p.fp ≤ q.tp then (if q.tp < p.tp then acc.dropLast ++ [setTo q p] else acc) else acc ++ [p]
theorem mrgD_map (acc : List Piece) (p : Piece) : (mrgD acc p).map Piece.pp = Pc.mrg (acc.map Piece.pp) p.pp := by
 unfold mrgD Pc.mrg
 rcases List.eq_nil_or_concat acc with rfl | ⟨a, q, rfl⟩
 ·rfl
 ·simp only [List.concat_eq_append, List.map_append, List.map_cons, List.map_nil, List.getLast?_append, List.getLast?_singleton, Option.some_or, List.dropLast_concat]
  show List.map Piece.pp (if p.fp ≤ q.tp then _ else _) = if p.fp ≤ q.tp then (if q.tp < p.tp then _ else _) else _
  split
  ·split
   ·simp; rfl
   ·simp
  ·simp
theorem fold_map : ∀ (s acc : List Piece), (s.foldl mrgD acc).map Piece.pp = (s.map Piece.pp).foldl Pc.mrg (acc.map Piece.pp)
 | [], acc => rfl
 | p :: s, acc => by rw [List.foldl_cons, fold_map s, List.map_cons, List.foldl_cons, mrgD_map]
theorem mrgD_mem {acc : List Piece} {p : Piece} (ha : ∀ q ∈ acc, good q) (hp : good p) : ∀ q ∈ mrgD acc p, good q := by
 intro r hr
 unfold mrgD at hr
 have happ : r ∈ acc ++ [p] → good r := fun h => by
  rcases List.mem_append.1 h with h | h
  ·exact ha r h
  ·rw [List.mem_singleton.1 h]; exact hp
 split at hr
 ·exact happ hr
 ·rename_i q hq
  have hqa := ha q (List.mem_of_getLast? hq)
  split at hr
  ·split at hr
   ·rcases List.mem_append.1 hr with h | h
    ·exact ha r (List.dropLast_subset _ h)
    ·rw [List.mem_singleton.1 h]
     obtain ⟨⟨h1, h2⟩, h3⟩ := hqa
     obtain ⟨⟨h4, h5⟩, h6⟩ := hp
     simp only [okPc, Bool.and_eq_true] at h1 h4
     refine ⟨⟨?_, h5⟩, h3⟩
     simp only [okPc, Bool.and_eq_true]
     exact ⟨h1.1, h4.2⟩
   ·exact ha r hr
  ·exact happ hr
theorem fold_mem : ∀ (s acc : List Piece), (∀ q ∈ acc, good q) → (∀ q ∈ s, good q) → ∀ q ∈ s.foldl mrgD acc, good q
 | [], acc, ha, _ => ha
 | p :: s, acc, ha, hs => fold_mem s _ (mrgD_mem ha (hs p (by simp))) fun q hq => hs q (by simp [hq])
def spanOf (p : Piece) : Span := (p.1, p.2.1, p.2.2.1, p.2.2.2.1, p.2.2.2.2.2.2.1, p.2.2.2.2.2.2.2.1, p.2.2.2.2.2.2.2.2.1, p.2.2.2.2.2.2.2.2.2.1, p.2.2.2.2.1, p.2.2.2.2.2.2.2.2.2.2.1, p.2.2.2.2.2.2.2.2.2.2.2.1, ())
def spanP (p : Pt × Pt) : Span := (p.1.v.1, p.1.v.2.1, p.1.v.2.2.1, p.1.v.2.2.2.1, p.2.v.1, p.2.v.2.1, p.2.v.2.2.1, p.2.v.2.2.2.1, decide (p.1.b = 1), decide (p.2.b = 1), decide (p.2.e = 1), ())
theorem spanOf_eq {p : Piece} (h : good p) : spanOf p = spanP p.pp := by
 obtain ⟨⟨_, h1⟩, h2⟩ := h
 obtain ⟨a, b, c, d, fb, fe, a', b', c', d', tb, te, u⟩ := p
 simp only [Piece.te, Piece.tv, Piece.tb] at h1
 simp only [Piece.fe] at h2
 subst h2
 simp only [spanP, Piece.pp, Piece.fp, Piece.tp, Piece.fv, Piece.tv, Piece.fb, Piece.fe, Piece.tb, Piece.te, ptOf, spanOf]
 cases te with
 | true =>
  obtain ⟨h3, h4⟩ := h1 rfl
  simp only [v0, Prod.mk.injEq] at h3
  obtain ⟨rfl, rfl, rfl, rfl, _⟩ := h3
  subst h4
  cases fb <;> rfl
 | false => cases fb <;> cases tb <;> rfl
theorem pt_top (v : Ver) (b e : Bool) (w : Ver) (c f : Bool) (h : ptOf v b e < ptOf w c f) : e = false := by
 cases e with
 | false => rfl
 | true =>
  rw [pt_lt] at h
  unfold ptOf at h
  cases f with
  | true => simp only [if_true, lin_pt.self] at h; omega
  | false =>
   have : Pt.c (if true = true then ⟨1, v0, 0⟩ else ⟨0, v, if b = true then 1 else 0⟩) (if false = true then ⟨1, v0, 0⟩ else ⟨0, w, if c = true then 1 else 0⟩) = 1 := rfl
   rw [this] at h; omega
theorem full_lt {p : Piece} : full p = true ↔ p.fp < p.tp := by simp [full, dead]
theorem full_good {p : Piece} (h : okP p) (hf : full p = true) : good p := ⟨h, pt_top _ _ _ _ _ _ (full_lt.1 hf)⟩
theorem gt_lt (a b : Pt) : decide (a.c b > Int.ofNat 0) = decide (b < a) := by
 congr 1
 rw [pt_lt, lin_pt.anti a b]
 exact propext ⟨fun h => by have h : (0 : Int) < a.c b := h; omega, fun h => by show (0 : Int) < a.c b; omega⟩
theorem le_le (a b : Pt) : decide (a.c b ≤ Int.ofNat 0) = decide (a ≤ b) := rfl
theorem wrap_len {n : Nat} (h : n ≤ big) : IntKind.wrap IntKind.i64 (Int.ofNat n - Int.ofNat 1) = (n : Int) - 1 := by
 show IntKind.wrap IntKind.i64 ((n : Int) - 1) = _
 simp only [big] at h
 exact wrap64 (by omega) (by omega)
theorem set_last {α : Type} (a : List α) (q z : α) : (a ++ [q]).set a.length z = a ++ [z] := by
 rw [List.set_append_right _ _ (Nat.le_refl _)]; simp
theorem ord_ft (p q : Piece) (hp : okPc p = true) (hq : okPc q = true) : F40 (p.1, p.2.1, p.2.2.1, p.2.2.2.1, p.2.2.2.2.1, p.2.2.2.2.2.1, q.2.2.2.2.2.2.1, q.2.2.2.2.2.2.2.1, q.2.2.2.2.2.2.2.2.1, q.2.2.2.2.2.2.2.2.2.1, q.2.2.2.2.2.2.2.2.2.2.1, q.2.2.2.2.2.2.2.2.2.2.2.1, ()) = some ((p.fp).c q.tp, ()) := by
 simp only [okPc, Bool.and_eq_true] at hp hq
 exact F40_is p.fv q.tv p.fb p.fe q.tb q.te hp.1 hq.2
theorem ord_tt (p q : Piece) (hp : okPc p = true) (hq : okPc q = true) : F40 (p.2.2.2.2.2.2.1, p.2.2.2.2.2.2.2.1, p.2.2.2.2.2.2.2.2.1, p.2.2.2.2.2.2.2.2.2.1, p.2.2.2.2.2.2.2.2.2.2.1, p.2.2.2.2.2.2.2.2.2.2.2.1, q.2.2.2.2.2.2.1, q.2.2.2.2.2.2.2.1, q.2.2.2.2.2.2.2.2.1, q.2.2.2.2.2.2.2.2.2.1, q.2.2.2.2.2.2.2.2.2.2.1, q.2.2.2.2.2.2.2.2.2.2.2.1, ()) = some ((p.tp).c q.tp, ()) := by
 simp only [okPc, Bool.and_eq_true] at hp hq
 exact F40_is p.tv q.tv p.tb p.te q.tb q.te hp.2 hq.2
theorem ord_ff (p q : Piece) (hp : okPc p = true) (hq : okPc q = true) : F40 (p.1, p.2.1, p.2.2.1, p.2.2.2.1, p.2.2.2.2.1, p.2.2.2.2.2.1, q.1, q.2.1, q.2.2.1, q.2.2.2.1, q.2.2.2.2.1, q.2.2.2.2.2.1, ()) = some ((p.fp).c q.fp, ()) := by
 simp only [okPc, Bool.and_eq_true] at hp hq
 exact F40_is p.fv q.fv p.fb p.fe q.fb q.fe hp.1 hq.1
theorem B41_0_is (s rest : List Piece) (hs : ∀ p ∈ s, okPc p = true) (hl : s.length ≤ big) :
  loop B41_0 (0, s.length, Int.ofNat (s.length - 0), Int.ofNat 0, s ++ rest, [], ()) = some (s ++ rest, s.foldl mrgD [], ()) := by
 have := loop_fold (B := B41_0) s (fun i (b : List Piece) => (0, s.length, Int.ofNat (s.length - 0), (i : Int), s ++ rest, b, ())) mrgD (fun b => (s ++ rest, b, ())) [] (fun i b => b.length ≤ i ∧ ∀ q ∈ b, okPc q = true) ⟨Nat.le_refl _, by simp⟩
  (fun i h b ⟨hb, hq⟩ => by
   have hidx : (s ++ rest)[0 + Int.toNat (i : Int)]? = some s[i] := by
    rw [Nat.zero_add, Int.toNat_natCast, List.getElem?_append_left h, List.getElem?_eq_getElem h]
   have hp := hs _ (List.getElem_mem h)
   generalize hpe : s[i] = p at *
   have hw := wrap_next h (by simp only [big] at hl; omega)
   have hone := one_le (b := b) (N := 1466015503701) p (by simp only [big] at hl; omega)
   have hpp := hp
   simp only [okPc, Bool.and_eq_true] at hp
   rw [B41_0_eq]
   simp only [Nat.sub_zero, lt_in h, cond_true, ge_zero, Bool.and_self, hidx, Option.bind_some, hw]
   have happ : b.length ≤ i → (b ++ [p]).length ≤ i + 1 := fun h => by simp; omega
   have hmem : ∀ q ∈ b ++ [p], okPc q = true := fun q h => by
    rcases List.mem_append.1 h with h | h
    ·exact hq q h
    ·rw [List.mem_singleton.1 h]; exact hpp
   rcases List.eq_nil_or_concat b with rfl | ⟨a, q, rfl⟩
   ·have : decide (IntKind.wrap IntKind.i64 (Int.ofNat ([] : List Piece).length - Int.ofNat 1) ≥ Int.ofNat 0) = false := rfl
    rw [this]
    simp only [cond_false]
    erw [hone]
    exact ⟨rfl, by simp [mrgD], by simpa [mrgD] using hmem⟩
   ·simp only [List.concat_eq_append] at *
    have hqa := hq q (by simp)
    have hqc := hqa
    simp only [okPc, Bool.and_eq_true] at hqa
    have hlen : (a ++ [q]).length = a.length + 1 := by simp
    have hwl := wrap_len (n := (a ++ [q]).length) (by omega)
    have e1 : (((a ++ [q]).length : Nat) : Int) - 1 = (a.length : Int) := by rw [hlen]; omega
    have e2 : decide ((a.length : Int) ≥ Int.ofNat 0) = true := ge_zero _
    have e3 : decide ((a.length : Int) < Int.ofNat (a ++ [q]).length) = true := lt_in (by omega)
    have e4 : (a ++ [q])[Int.toNat (a.length : Int)]? = some q := by simp
    have hm : mrgD (a ++ [q]) p = if p.fp ≤ q.tp then (if q.tp < p.tp then a ++ [setTo q p] else a ++ [q]) else a ++ [q] ++ [p] := by
     unfold mrgD; simp
    simp only [hwl, e1, e2, e3, e4, ge_zero, Bool.and_self, cond_true, Option.bind_some]
    rw [ord_ft p q hpp hqc, ord_tt p q hpp hqc]
    simp only [Option.bind_some, le_le, gt_lt]
    rw [hm]
    by_cases c1 : p.fp ≤ q.tp
    ·rw [decide_eq_true c1, if_pos c1]
     simp only [cond_true]
     by_cases c2 : q.tp < p.tp
     ·rw [decide_eq_true c2, if_pos c2]
      simp only [cond_true, Int.toNat_natCast]
      rw [set_last]
      refine ⟨rfl, by simp at hb ⊢; omega, fun r hr => ?_⟩
      rcases List.mem_append.1 hr with h | h
      ·exact hq r (by simp [h])
      ·rw [List.mem_singleton.1 h]
       simp only [okPc, Bool.and_eq_true]
       exact ⟨hqa.1, hp.2⟩
     ·rw [decide_eq_false c2, if_neg c2]
      exact ⟨rfl, by omega, hq⟩
    ·rw [decide_eq_false c1, if_neg c1]
     simp only [cond_false]
     erw [hone]
     exact ⟨rfl, happ hb, hmem⟩)
  (fun b ⟨hb, _⟩ => by
   rw [B41_0_eq]
   simp only [Nat.sub_zero, lt_out, cond_false])
 exact this
theorem F72_is (l : List Span) : F72 (l, ()) = some (l, ()) := by
 rw [F72_eq]
 have : (decide (Int.ofNat 0 ≤ Int.ofNat l.length) && (decide (Int.ofNat l.length ≤ Int.ofNat l.length) && decide (Int.ofNat l.length ≤ Int.ofNat l.length))) = true := by simp
 rw [this]
 simp
theorem fold_len : ∀ (s acc : List Piece), (s.foldl mrgD acc).length ≤ acc.length + s.length
 | [], acc => by simp
 | p :: s, acc => by
  rw [List.foldl_cons]
  have h1 := fold_len s (mrgD acc p)
  have h2 : (mrgD acc p).length ≤ acc.length + 1 := by
   unfold mrgD
   split
   ·simp
   ·rename_i q hq
    split
    ·split
     ·cases acc with
      | nil => cases hq
      | cons x l => simp
     ·omega
    ·simp
  simp only [List.length_cons]
  omega
theorem F41_is (l : List Piece) (hp : ∀ p ∈ l, okP p) (hl : l.length ≤ big) : ∃ r, F41 (l, ()) = some ((Pc.nf (l.map Piece.pp)).map spanP, r, ()) := by
 obtain ⟨r, h1, h2, h3⟩ := F68_is l (fun p h => (hp p h).1) hl
 rw [F41_eq, h1]
 simp only [Option.bind_some]
 have hk : (l.filter full).length ≤ l.length := List.length_filter_le _ _
 have h70 : F70 (0, (l.filter full).length, r, ()) = some (sortBy cmpPc (l.filter full) ++ r.drop (l.filter full).length, ()) := by
  unfold F70 FSortP
  simp only [h2]
  have e1 : (l.filter full).all okPc = true := List.all_eq_true.2 fun p h => (hp p (List.mem_filter.1 h).1).1
  have e2 : Nat.ble (l.filter full).length r.length = true := Nat.ble_eq_true_of_le h3
  have e3 : decide ((l.filter full).length < 4611686018427387904) = true := decide_eq_true (by simp only [big] at hl; omega)
  rw [e1, e2, e3]
  rfl
 rw [h70]
 simp only [Option.bind_some]
 generalize hs : sortBy cmpPc (l.filter full) = s at *
 have hperm : s.Perm (l.filter full) := hs ▸ sortBy_perm swo_pc _
 have hsort : s.Pairwise fun a b => ¬ cmpPc b a < 0 := hs ▸ sortBy_sorted swo_pc _
 have hsl : s.length = (l.filter full).length := hperm.length_eq
 have hsm : ∀ p ∈ s, okP p ∧ full p = true := fun p h => by
  have := List.mem_filter.1 (hperm.mem_iff.1 h)
  exact ⟨hp p this.1, this.2⟩
 rw [← hsl]
 rw [B41_0_is s _ (fun p h => (hsm p h).1.1) (by omega)]
 simp only [Option.bind_some]
 have hfl := fold_len s []
 simp only [List.length_nil, Nat.zero_add] at hfl
 have hgood := fold_mem s [] (by simp) fun p h => full_good (hsm p h).1 (hsm p h).2
 have hnf : (s.foldl mrgD []).map Piece.pp = Pc.nf (l.map Piece.pp) := by
  rw [fold_map]
  refine Pc.sorted_nf ?_ ?_
  ·rw [List.filter_map]
   have : (Pc.full ∘ Piece.pp : Piece → Bool) = full := by
    funext p
    show decide (p.fp < p.tp) = !(!decide (p.fp < p.tp))
    rw [Bool.not_not]
   rw [this]
   exact hperm.map _
  ·rw [List.pairwise_map]
   refine hsort.imp fun {a b} h => ?_
   show a.fp ≤ b.fp
   rw [pt_le]
   unfold cmpPc at h
   rw [lin_pt.anti a.fp b.fp] at h
   omega
 generalize s.foldl mrgD [] = m at *
 have := loop_map (B := B41_1) m (fun i b => (Int.ofNat m.length, (i : Int), s ++ List.drop s.length r, b, m, ())) spanOf (fun b => (s ++ List.drop s.length r, b, ())) (fun i h b hb => by
  rw [B41_1_eq]
  have h5 := one_le (b := b) (N := 1599289640401) (spanOf m[i]) (by simp only [big] at hl; omega)
  simp only [lt_in h, cond_true, ge_zero, Bool.and_self, at_in h, Option.bind_some, wrap_next h (by simp only [big] at hl; omega)]
  erw [h5]
  rfl) (fun b hb => by
  rw [B41_1_eq]
  simp only [lt_out, cond_false])
 have h0 : loop B41_1 (Int.ofNat m.length, Int.ofNat 0, s ++ List.drop s.length r, [], m, ()) = _ := this
 rw [h0]
 simp only [Option.bind_some, F72_is]
 have : m.map spanOf = (Pc.nf (l.map Piece.pp)).map spanP := by
  rw [← hnf, List.map_map]
  exact List.map_congr_left fun p h => spanOf_eq (hgood p h)
 rw [this]
 exact ⟨_, rfl⟩
end Go.Vx.Z
/-! span: Or, Not, And, Has. -/
namespace Go.Vx.Z
open Go Go.Vx
set_option linter.unusedVariables false
theorem flat_step {α : Type} (ls : List (List α)) {i : Nat} (h : i < ls.length) : (ls.take (i + 1)).flatten = (ls.take i).flatten ++ ls[i] ∧ ((ls.take i).flatten ++ ls[i]).length ≤ ls.flatten.length := by
 have e : (ls.take (i + 1)).flatten = (ls.take i).flatten ++ ls[i] := by rw [List.take_succ_eq_append_getElem h, List.flatten_append]; simp only [List.flatten_cons, List.flatten_nil, List.append_nil]
 refine ⟨e, ?_⟩
 rw [← e]
 have := List.take_append_drop (i + 1) ls
 conv => rhs; rw [← this]
 rw [List.flatten_append, List.length_append]
 omega
theorem F73_is (n : Nat) (h : n ≤ big) : F73 ((n : Int), ()) = some ([], ()) := by
 rw [F73_eq]
 simp only [big] at h
 have hw : IntKind.wrap IntKind.i64 ((n : Int) - Int.ofNat 0) = (n : Int) := by
  show IntKind.wrap IntKind.i64 ((n : Int) - 0) = _
  rw [Int.sub_zero]; exact wrap64 (by omega) (by omega)
 rw [hw]
 have e1 : decide ((n : Int) < Int.ofNat 0) = false := by simp
 rw [e1]
 simp only [cond_false]
 by_cases hn : n = 0
 ·subst hn; rfl
 ·have e2 : decide ((n : Int) > Int.ofNat 0) = true := decide_eq_true (by show (0 : Int) < n; omega)
  have e3 : decide ((n : Int) ≤ Int.ofNat 1599289640401) = true := by simp; omega
  rw [e2, e3]
  simp only [cond_true, Bool.and_self]
  have e4 : ∀ z : R7, decide (Int.ofNat 0 ≤ Int.ofNat (List.replicate (Int.toNat (n : Int)) z).length) = true := fun z => by simp
  rw [e4]
  simp
theorem F42_is (ls : List (List Span)) (h : ls.flatten.length ≤ big) (hl : ls.length ≤ big) : F42 (ls, ()) = some (ls.flatten, ()) := by
 rw [F42_eq]
 have h0 : loop B42_0 (ls, Int.ofNat 0, ls, Int.ofNat ls.length, Int.ofNat 0, ()) = some (ls, (ls.flatten.length : Int), ()) := by
  have := loop_row (B := B42_0) (fun i => (ls, (((ls.take i).flatten.length : Nat) : Int), ls, Int.ofNat ls.length, (i : Int), ())) ls.length (e := (ls, (ls.flatten.length : Int), ())) (fun i hi => by
   obtain ⟨f1, f2⟩ := flat_step ls hi
   simp only [big] at h hl
   rw [B42_0_eq]
   have e1 : IntKind.wrap IntKind.i64 ((((ls.take i).flatten.length : Nat) : Int) + Int.ofNat ls[i].length) = ((((ls.take i).flatten ++ ls[i]).length : Nat) : Int) := by
    rw [List.length_append] at f2 ⊢
    show IntKind.wrap IntKind.i64 ((((ls.take i).flatten.length : Nat) : Int) + ((ls[i].length : Nat) : Int)) = _
    rw [wrap64 (by omega) (by omega)]; omega
   have e2 : decide (((((ls.take i).flatten ++ ls[i]).length : Nat) : Int) < Int.ofNat 0) = false := by simp; omega
   simp only [lt_in hi, cond_true, ge_zero, at_in hi, Option.bind_some, e1, e2, cond_false, wrap_next hi (by omega), f1]) (by
   rw [B42_0_eq]
   simp only [lt_out, cond_false, List.take_length])
  exact this
 rw [h0]
 simp only [Option.bind_some, F73_is _ h]
 have h1 : loop B42_1 (ls, Int.ofNat ls.length, Int.ofNat 0, [], ()) = some (ls.flatten, ()) := by
  have := loop_row (B := B42_1) (fun i => (ls, Int.ofNat ls.length, (i : Int), (ls.take i).flatten, ())) ls.length (e := (ls.flatten, ())) (fun i hi => by
   obtain ⟨f1, f2⟩ := flat_step ls hi
   simp only [big] at h hl
   rw [B42_1_eq]
   have e2 : decide ((ls.take i).flatten.length + ls[i].length ≤ 1599289640401) = true := by
    rw [List.length_append] at f2
    exact decide_eq_true (by omega)
   simp only [lt_in hi, cond_true, ge_zero, at_in hi, Option.bind_some, e2, wrap_next hi (by omega), f1]) (by
   rw [B42_1_eq]
   simp only [lt_out, cond_false, List.take_length])
  exact this
 rw [h1]
 rfl
def kOf (s : Span) : Pt × Pt := (pieceOf s).pp
def okS (s : Span) : Bool := okV s.lo && okV s.hi
theorem pieceOf_ok {s : Span} (h : okS s = true) : okP (pieceOf s) := by
 obtain ⟨a, b, c, d, a', b', c', d', u, v, w, x⟩ := s
 simp only [okS, Bool.and_eq_true] at h
 unfold okP okPc pieceOf
 cases w with
 | true => exact ⟨by simp only [cond_true, Bool.and_eq_true]; exact ⟨h.1, rfl⟩, fun _ => ⟨rfl, rfl⟩⟩
 | false => exact ⟨by simp only [cond_false, Bool.and_eq_true]; exact ⟨h.1, h.2⟩, fun hc => by cases hc⟩
theorem pieceOf_fe (s : Span) : (pieceOf s).fe = false := by
 unfold pieceOf Piece.fe
 cases s.2.2.2.2.2.2.2.2.2.2.1 <;> rfl
theorem map_pp (l : List Span) : (l.map pieceOf).map Piece.pp = l.map kOf := by rw [List.map_map]; rfl
theorem norm_spans (l : List Span) (h : ∀ s ∈ l, okS s = true) (hl : l.length ≤ big) : ∃ r, F41 (l.map pieceOf, ()) = some ((Pc.nf (l.map kOf)).map spanP, r, ()) := by
 obtain ⟨r, hr⟩ := F41_is (l.map pieceOf) (fun p hp => by obtain ⟨s, h1, rfl⟩ := List.mem_map.1 hp; exact pieceOf_ok (h s h1)) (by simpa using hl)
 rw [map_pp] at hr
 exact ⟨r, hr⟩
theorem F17_is (ls : List (List Span)) (hok : ∀ s ∈ ls.flatten, okS s = true) (h : ls.flatten.length ≤ big) (hl : ls.length ≤ big) : F17 (ls, ()) = some ((Pc.nf (ls.flatten.map kOf)).map spanP, ()) := by
 obtain ⟨r, hr⟩ := norm_spans _ hok h
 rw [F17_eq, F42_is ls h hl, Option.bind_some, F39v1_is _ h, Option.bind_some, hr]
 rfl
def ptV (v : Ver) : Pt := ptOf v false false
def least : Ver := (0, 0, 0, lit [48], ())
def pBeg : Pt := ptV least
def pEnd : Pt := ptOf v0 false true
def gapsD : Ver × Bool × Bool → List Piece → List Piece
 | a, [] => [(a.1.1, a.1.2.1, a.1.2.2.1, a.1.2.2.2.1, a.2.1, a.2.2, Int.ofNat 0, Int.ofNat 0, Int.ofNat 0, (lit []), false, true, ())]
 | a, p :: l => (a.1.1, a.1.2.1, a.1.2.2.1, a.1.2.2.2.1, a.2.1, a.2.2, p.1, p.2.1, p.2.2.1, p.2.2.2.1, p.2.2.2.2.1, p.2.2.2.2.2.1, ()) :: gapsD (p.tv, p.tb, p.te) l
theorem gapsD_pp : ∀ (l : List Piece) (a : Ver × Bool × Bool), (gapsD a l).map Piece.pp = Pc.gaps (ptOf a.1 a.2.1 a.2.2) (l.map Piece.pp) pEnd
 | [], a => rfl
 | p :: l, a => by
  simp only [gapsD, List.map_cons, Pc.gaps, gapsD_pp l]
  rfl
theorem gapsD_ok : ∀ (l : List Piece) (a : Ver × Bool × Bool), okV a.1 = true → (∀ p ∈ l, okPc p = true ∧ p.fe = false) → ∀ q ∈ gapsD a l, okP q
 | [], a, ha, _, q, hq => by
  rw [List.mem_singleton.1 hq]
  exact ⟨by simp only [okPc, Bool.and_eq_true]; exact ⟨ha, rfl⟩, fun _ => ⟨rfl, rfl⟩⟩
 | p :: l, a, ha, hl, q, hq => by
  obtain ⟨h1, h2⟩ := hl p (by simp)
  simp only [okPc, Bool.and_eq_true] at h1
  rcases List.mem_cons.1 hq with rfl | hq
  ·refine ⟨by simp only [okPc, Bool.and_eq_true]; exact ⟨ha, h1.1⟩, fun hc => ?_⟩
   have : p.fe = true := hc
   rw [h2] at this; cases this
  ·exact gapsD_ok l _ h1.2 (fun p hp => hl p (by simp [hp])) q hq
theorem gapsD_len : ∀ (l : List Piece) (a : Ver × Bool × Bool), (gapsD a l).length = l.length + 1
 | [], a => rfl
 | p :: l, a => by simp only [gapsD, List.length_cons, gapsD_len l]
theorem B18_is (ps : List Piece) (hl : ps.length ≤ big) : ∀ (n i : Nat) (a : Ver × Bool × Bool) (b : List Piece), ps.length - i = n → i ≤ ps.length → b.length = i →
  ∃ (a' : Ver × Bool × Bool) (b' : List Piece), loop B18_0 (Int.ofNat ps.length, (i : Int), a.1.1, a.1.2.1, a.1.2.2.1, a.1.2.2.2.1, a.2.1, a.2.2, b, ps, ()) = some (a'.1.1, a'.1.2.1, a'.1.2.2.1, a'.1.2.2.2.1, a'.2.1, a'.2.2, b', ()) ∧
   b'.length = ps.length ∧ b' ++ gapsD a' [] = b ++ gapsD a (ps.drop i)
 | 0, i, a, b, hn, hi, hb => by
  obtain rfl : i = ps.length := by omega
  refine ⟨a, b, loop_end ?_, hb, by rw [List.drop_length]⟩
  rw [B18_0_eq]
  simp only [lt_out, cond_false]
 | n + 1, i, a, b, hn, hi, hb => by
  have h : i < ps.length := by omega
  simp only [big] at hl
  obtain ⟨a', b', h1, h2, h3⟩ := B18_is ps hl n (i + 1) (ps[i].tv, ps[i].tb, ps[i].te) (b ++ [(a.1.1, a.1.2.1, a.1.2.2.1, a.1.2.2.2.1, a.2.1, a.2.2, ps[i].1, ps[i].2.1, ps[i].2.2.1, ps[i].2.2.2.1, ps[i].2.2.2.2.1, ps[i].2.2.2.2.2.1, ())]) (by omega) h (by simp [hb])
  refine ⟨a', b', loop_step ?_ h1, h2, ?_⟩
  ·rw [B18_0_eq]
   simp only [lt_in h, cond_true, ge_zero, Bool.and_self, at_in h, Option.bind_some, wrap_next h (by omega)]
   erw [one_le (b := b) _ (by omega)]
   rfl
  ·rw [h3, List.drop_eq_getElem_cons h, gapsD, List.append_assoc]
   rfl
theorem F18_is (l : List Span) (hok : ∀ s ∈ l, okS s = true) (hl : l.length < big) : F18 (l, ()) = some ((Pc.nf (Pc.gaps pBeg (l.map kOf) pEnd)).map spanP, ()) := by
 rw [F18_eq, F43_eq, Option.bind_some, F39_is l (Nat.le_of_lt hl), Option.bind_some]
 obtain ⟨a', b', h1, h2, h3⟩ := B18_is (l.map pieceOf) (by simp only [List.length_map, big] at hl ⊢; omega) _ 0 (least, false, false) [] rfl (Nat.zero_le _) rfl
 have h1' : loop B18_0 (Int.ofNat (l.map pieceOf).length, Int.ofNat 0, Int.ofNat 0, Int.ofNat 0, Int.ofNat 0, lit [48], false, false, [], l.map pieceOf, ()) = _ := h1
 rw [h1']
 simp only [Option.bind_some]
 rw [List.length_map] at h2
 simp only [big] at hl
 erw [one_le (b := b') _ (by omega)]
 simp only [cond_true]
 have h4 : b' ++ [((a'.1.1, a'.1.2.1, a'.1.2.2.1, a'.1.2.2.2.1, a'.2.1, a'.2.2, Int.ofNat 0, Int.ofNat 0, Int.ofNat 0, (lit []), false, true, ()) : Piece)] = gapsD (least, false, false) (l.map pieceOf) := h3
 erw [h4]
 obtain ⟨r, hr⟩ := F41_is (gapsD (least, false, false) (l.map pieceOf)) (gapsD_ok _ _ rfl fun p hp => by
  obtain ⟨s, h5, rfl⟩ := List.mem_map.1 hp
  exact ⟨(pieceOf_ok (hok s h5)).1, pieceOf_fe s⟩) (by rw [gapsD_len]; simp only [List.length_map, big]; omega)
 rw [gapsD_pp, map_pp] at hr
 rw [hr]
 rfl
end Go.Vx.Z
/-! span: And, Has. -/
namespace Go.Vx.Z
open Go Go.Vx
set_option linter.unusedVariables false
theorem loop_mapA {P E α β : Type} {B : P → Option (P ⊕ E)} (xs : List α) (acc : List β) (st : Nat → List β → P) (f : α → β) (en : List β → E)
  (hs : ∀ i (h : i < xs.length) b, b.length = acc.length + i → B (st i b) = some (.inl (st (i + 1) (b ++ [f xs[i]])))) (he : ∀ b, b.length = acc.length + xs.length → B (st xs.length b) = some (.inr (en b))) :
  loop B (st 0 acc) = some (en (acc ++ xs.map f)) := by
 have := loop_fold (B := B) xs st (fun b y => b ++ [f y]) en acc (fun i b => b.length = acc.length + i) rfl (fun i h b hb => ⟨hs i h b hb, by simp [hb]; omega⟩) he
 rw [this, foldl_snoc]
def meetD (p q : Piece) : Piece := bif decide (p.fp < q.fp) then (bif decide (q.tp < p.tp) then (q.1, q.2.1, q.2.2.1, q.2.2.2.1, q.2.2.2.2.1, q.2.2.2.2.2.1, q.2.2.2.2.2.2.1, q.2.2.2.2.2.2.2.1, q.2.2.2.2.2.2.2.2.1, q.2.2.2.2.2.2.2.2.2.1, q.2.2.2.2.2.2.2.2.2.2.1, q.2.2.2.2.2.2.2.2.2.2.2.1, ()) else (q.1, q.2.1, q.2.2.1, q.2.2.2.1, q.2.2.2.2.1, q.2.2.2.2.2.1, p.2.2.2.2.2.2.1, p.2.2.2.2.2.2.2.1, p.2.2.2.2.2.2.2.2.1, p.2.2.2.2.2.2.2.2.2.1, p.2.2.2.2.2.2.2.2.2.2.1, p.2.2.2.2.2.2.2.2.2.2.2.1, ()))
 else (bif decide (q.tp < p.tp) then (p.1, p.2.1, p.2.2.1, p.2.2.2.1, p.2.2.2.2.1, p.2.2.2.2.2.1, q.2.2.2.2.2.2.1, q.2.2.2.2.2.2.2.1, q.2.2.2.2.2.2.2.2.1, q.2.2.2.2.2.2.2.2.2.1, q.2.2.2.2.2.2.2.2.2.2.1, q.2.2.2.2.2.2.2.2.2.2.2.1, ()) else (p.1, p.2.1, p.2.2.1, p.2.2.2.1, p.2.2.2.2.1, p.2.2.2.2.2.1, p.2.2.2.2.2.2.1, p.2.2.2.2.2.2.2.1, p.2.2.2.2.2.2.2.2.1, p.2.2.2.2.2.2.2.2.2.1, p.2.2.2.2.2.2.2.2.2.2.1, p.2.2.2.2.2.2.2.2.2.2.2.1, ()))
theorem meetD_pp (p q : Piece) : (meetD p q).pp = Pc.meet p.pp q.pp := by
 unfold meetD Pc.meet
 show _ = (if p.fp < q.fp then q.fp else p.fp, if q.tp < p.tp then q.tp else p.tp)
 by_cases h1 : p.fp < q.fp
 ·by_cases h2 : q.tp < p.tp
  ·rw [decide_eq_true h1, decide_eq_true h2, if_pos h1, if_pos h2]; rfl
  ·rw [decide_eq_true h1, decide_eq_false h2, if_pos h1, if_neg h2]; rfl
 ·by_cases h2 : q.tp < p.tp
  ·rw [decide_eq_false h1, decide_eq_true h2, if_neg h1, if_pos h2]; rfl
  ·rw [decide_eq_false h1, decide_eq_false h2, if_neg h1, if_neg h2]; rfl
theorem meetD_ok {p q : Piece} (hp : okP p) (hq : okP q) : okP (meetD p q) := by
 obtain ⟨h1, h2⟩ := hp
 obtain ⟨h3, h4⟩ := hq
 simp only [okPc, Bool.and_eq_true] at h1 h3
 unfold meetD okP okPc
 simp only [Bool.and_eq_true]
 cases decide (p.fp < q.fp) <;> cases decide (q.tp < p.tp)
 ·exact ⟨⟨h1.1, h1.2⟩, h2⟩
 ·exact ⟨⟨h1.1, h3.2⟩, h4⟩
 ·exact ⟨⟨h3.1, h1.2⟩, h2⟩
 ·exact ⟨⟨h3.1, h3.2⟩, h4⟩
theorem lt_lt (a b : Pt) : decide (a.c b < Int.ofNat 0) = decide (a < b) := rfl
theorem meet_inner (x0 : List Span) (x1 x2 : Int) (p : Piece) (hp : okPc p = true) (x18 qs : List Piece) (hq : ∀ q ∈ qs, okPc q = true) (hl : qs.length ≤ big) (acc : List Piece) (ha : acc.length + qs.length ≤ big) :
  loop B16_0 (x0, x1, x2, Int.ofNat qs.length, Int.ofNat 0, acc, p.1, p.2.1, p.2.2.1, p.2.2.2.1, p.2.2.2.2.1, p.2.2.2.2.2.1, p.2.2.2.2.2.2.1, p.2.2.2.2.2.2.2.1, p.2.2.2.2.2.2.2.2.1, p.2.2.2.2.2.2.2.2.2.1, p.2.2.2.2.2.2.2.2.2.2.1, p.2.2.2.2.2.2.2.2.2.2.2.1, x18, qs, ()) = some (x0, x1, x2, acc ++ qs.map (meetD p), x18, ()) := by
 have := loop_mapA (B := B16_0) qs acc (fun i b => (x0, x1, x2, Int.ofNat qs.length, (i : Int), b, p.1, p.2.1, p.2.2.1, p.2.2.2.1, p.2.2.2.2.1, p.2.2.2.2.2.1, p.2.2.2.2.2.2.1, p.2.2.2.2.2.2.2.1, p.2.2.2.2.2.2.2.2.1, p.2.2.2.2.2.2.2.2.2.1, p.2.2.2.2.2.2.2.2.2.2.1, p.2.2.2.2.2.2.2.2.2.2.2.1, x18, qs, ())) (meetD p) (fun b => (x0, x1, x2, b, x18, ())) (fun i h b hb => by
  rw [B16_0_eq]
  simp only [big] at hl ha
  have hqi := hq _ (List.getElem_mem h)
  simp only [lt_in h, cond_true, ge_zero, Bool.and_self, at_in h, Option.bind_some, wrap_next h (by omega)]
  rw [ord_ff qs[i] p hqi hp, ord_tt qs[i] p hqi hp]
  simp only [Option.bind_some, gt_lt, lt_lt]
  unfold meetD
  cases decide (p.fp < qs[i].fp) <;> cases decide (qs[i].tp < p.tp) <;> simp only [cond_true, cond_false] <;> erw [one_le (b := b) _ (by omega)] <;> rfl) (fun b hb => by
  rw [B16_0_eq]
  simp only [lt_out, cond_false])
 exact this
theorem F16_is (a b : List Span) (ha : ∀ s ∈ a, okS s = true) (hb : ∀ s ∈ b, okS s = true) (hl : a.length ≤ 1000000) (hl2 : b.length ≤ 1000000) :
  F16 (a, b, ()) = some ((Pc.nf (Pc.meets (a.map kOf) (b.map kOf))).map spanP, ()) := by
 have hbl : b.length ≤ big := by simp only [big]; omega
 have hal : a.length ≤ big := by simp only [big]; omega
 rw [F16_eq, F39_is a hal, Option.bind_some]
 have hpa : ∀ p ∈ a.map pieceOf, okP p := fun p hp => by obtain ⟨s, h1, rfl⟩ := List.mem_map.1 hp; exact pieceOf_ok (ha s h1)
 have hpb : ∀ p ∈ b.map pieceOf, okP p := fun p hp => by obtain ⟨s, h1, rfl⟩ := List.mem_map.1 hp; exact pieceOf_ok (hb s h1)
 have hmul : ∀ i, i ≤ a.length → i * b.length ≤ 1000000000000 := fun i hi => Nat.le_trans (Nat.mul_le_mul (Nat.le_trans hi hl) hl2) (by decide)
 generalize hA : a.map pieceOf = A at *
 have hAl : A.length = a.length := by rw [← hA, List.length_map]
 have h0 := loop_fold (B := B16_1) A (fun i (out : List Piece) => (b, Int.ofNat A.length, (i : Int), out, A, ())) (fun out p => out ++ (b.map pieceOf).map (meetD p)) (fun out => (out, ())) [] (fun i out => out.length = i * b.length) (by simp)
  (fun i h out ho => by
   have hi := hmul i (by omega)
   have hi2 := hmul (i + 1) (by omega)
   rw [Nat.add_mul, Nat.one_mul] at hi2
   refine ⟨?_, by simp [ho, Nat.add_mul]⟩
   rw [B16_1_eq]
   simp only [lt_in h, cond_true, ge_zero, Bool.and_self, at_in h, Option.bind_some, F39_is b hbl]
   rw [meet_inner b _ _ A[i] (hpa _ (List.getElem_mem h)).1 A (b.map pieceOf) (fun q hq => (hpb q hq).1) (by simpa using hbl) out (by simp only [List.length_map, big]; omega)]
   simp only [Option.bind_some, wrap_next h (show A.length ≤ 9223372036854775807 by omega)]) (fun out ho => by
   rw [B16_1_eq]
   simp only [lt_out, cond_false])
 have h1 : loop B16_1 (b, Int.ofNat A.length, Int.ofNat 0, [], A, ()) = _ := h0
 rw [h1, Option.bind_some]
 have hfold : ∀ (l acc : List Piece), l.foldl (fun out p => out ++ (b.map pieceOf).map (meetD p)) acc = acc ++ l.flatMap fun p => (b.map pieceOf).map (meetD p) := by
  intro l
  induction l with
  | nil => intro acc; simp
  | cons p l ih => intro acc; rw [List.foldl_cons, ih, List.flatMap_cons, List.append_assoc]
 rw [hfold, List.nil_append]
 have hlen : (A.flatMap fun p => (b.map pieceOf).map (meetD p)).length = A.length * b.length := by
  clear h0 h1 hfold hA hpa
  clear hAl
  induction A with
  | nil => simp
  | cons p l ih =>
   rw [List.flatMap_cons, List.length_append, ih, List.length_map, List.length_map, List.length_cons, Nat.add_mul, Nat.one_mul]
   exact Nat.add_comm _ _
 obtain ⟨r, hr⟩ := F41_is (A.flatMap fun p => (b.map pieceOf).map (meetD p)) (fun p hp => by
  obtain ⟨x, hx, hp⟩ := List.mem_flatMap.1 hp
  obtain ⟨y, hy, rfl⟩ := List.mem_map.1 hp
  exact meetD_ok (hpa x hx) (hpb y hy)) (by rw [hlen, hAl]; have := hmul a.length (Nat.le_refl _); simp only [big]; omega)
 rw [hr]
 have : (A.flatMap fun p => (b.map pieceOf).map (meetD p)).map Piece.pp = Pc.meets (a.map kOf) (b.map kOf) := by
  unfold Pc.meets
  rw [← map_pp a, hA, ← map_pp b, List.map_flatMap, List.flatMap_map]
  have hq : ∀ p : Piece, List.map Piece.pp (List.map (meetD p) (List.map pieceOf b)) = List.map (Pc.meet p.pp) (List.map Piece.pp (List.map pieceOf b)) := fun p => by
   generalize List.map pieceOf b = B
   rw [List.map_map, List.map_map]
   exact List.map_congr_left fun q _ => meetD_pp p q
  simp only [hq]
 rw [this]
 rfl
/-! Has -/
def hasK (l : List (Pt × Pt)) (x : Pt) : Bool := l.any fun p => decide (p.1 ≤ x) && decide (x < p.2)
end Go.Vx.Z
/-! The document's comparison is the program's. -/
namespace Go.Vx.Z
open Go Go.Vx
set_option linter.unusedVariables false
set_option maxRecDepth 100000
theorem F46_is (a b : Int) : F46 (a, b, ()) = some (cmpI a b, ()) := by
 rw [F46_eq]
 unfold cmpI
 by_cases h1 : a < b
 ·simp [h1]
 ·by_cases h2 : b < a
  ·simp [h1, h2]
  ·simp [h1, h2]
theorem F75_is (s : ByteArray) (hs : s.size ≤ 1099511627776) : F75 (s, ()) = some (allDig (bs s), ()) := by
 rw [F75_eq]
 have hl := bs_size s
 obtain ⟨e, h1, h2⟩ := loop_inv (B := B75_0) (fun p => ∃ i : Nat, i ≤ s.size ∧ ((bs s).take i).all dig1 = true ∧ p = (s, (i : Int), ())) (fun p => (Int.ofNat s.size - p.2.1).toNat)
  (fun e => (e = .inl (false, ()) ∧ (bs s).all dig1 = false) ∨ (e = .inr (s, ()) ∧ (bs s).all dig1 = true)) (by
   rintro p ⟨i, hi, ha, rfl⟩
   rw [B75_0_eq]
   by_cases hlt : i < s.size
   ·have hb := bt_eq s i hlt
    have hil : i < (bs s).length := by omega
    have h85 : F62 (((bs s)[i].toNat : Int), ()) = some (dig1 (bs s)[i], ()) := by
     rw [F62_eq]
     unfold dig1
     by_cases h48 : 48 ≤ (bs s)[i].toNat
     ·rw [show decide (((bs s)[i].toNat : Int) ≥ Int.ofNat 48) = true by simp; omega, show decide (48 ≤ (bs s)[i].toNat) = true by simpa using h48]
      simp only [cond_true, Bool.true_and]
      congr 2
      simp only [Int.ofNat_eq_natCast, decide_eq_decide]
      omega
     ·rw [show decide (((bs s)[i].toNat : Int) ≥ Int.ofNat 48) = false by simp; omega, show decide (48 ≤ (bs s)[i].toNat) = false by simpa using h48]
      rfl
    rw [lt_in hlt, ge_zero, hb, wrap_next hlt (by omega)]
    simp only [Bool.and_self, cond_true]
    rw [h85, Option.bind_some]
    cases hd : dig1 (bs s)[i] with
    | true => exact .inl ⟨_, rfl, ⟨i + 1, by omega, by rw [all_take _ _ hil, ha, hd]; rfl, rfl⟩, by simp; omega⟩
    | false =>
     refine .inr ⟨_, rfl, .inl ⟨rfl, ?_⟩⟩
     rw [List.all_eq_false]
     exact ⟨(bs s)[i], List.getElem_mem hil, by simp [hd]⟩
   ·have : i = s.size := by omega
    subst this
    rw [lt_out]
    refine .inr ⟨_, rfl, .inr ⟨rfl, ?_⟩⟩
    rwa [List.take_of_length_le (by omega)] at ha) (s, Int.ofNat 0, ()) ⟨0, by omega, by simp, rfl⟩
 rw [h1, Option.bind_some]
 rcases h2 with ⟨rfl, h3⟩ | ⟨rfl, h3⟩
 ·show some (false, ()) = _
  unfold allDig
  rw [h3]; rfl
 ·show some (!bl s == [], ()) = _
  unfold allDig
  rw [h3, bs_toList]
  cases bs s <;> rfl
theorem F48_is (a b : ByteArray) (ha : a.size ≤ 1099511627776) (hb : b.size ≤ 1099511627776) : F48 (a, b, ()) = some (cmpW (bs a) (bs b), ()) := by
 rw [F48_eq, F75_is a ha, F75_is b hb, wordKey_or]
 simp only [Option.bind_some, bs_toList, bytesLess_eq, F46_is, bs_size]
 have r := lin_cmpT.rng (bs a) (bs b)
 have e0 := lin_cmpT.eq0 (bs a) (bs b)
 have hT : (bif decide (cmpT (bs a) (bs b) = -1) then some (Int.negSucc 0, ()) else bif !(decide (cmpT (bs a) (bs b) = -1) || bs a == bs b) then some (Int.ofNat 1, ()) else some (Int.ofNat 0, ())) = some (cmpT (bs a) (bs b), ()) := by
  by_cases h1 : cmpT (bs a) (bs b) = -1
  ·simp [h1]
  ·by_cases h2 : bs a = bs b
   ·simp [h2, lin_cmpT.self]
   ·have h3 : cmpT (bs a) (bs b) ≠ 0 := fun h => h2 (e0.1 h)
    have h4 : cmpT (bs a) (bs b) = 1 := by omega
    have e : (bs a == bs b) = false := by simpa using h2
    rw [h4, e]; rfl
 cases hda : allDig (bs a) <;> cases hdb : allDig (bs b)
 ·simp only [Bool.not_false, Bool.false_eq_true, if_false, cond_false, beq_self_eq_true, Bool.not_true]
  exact hT
 ·rfl
 ·rfl
 ·simp only [cond_true, if_true, beq_self_eq_true, Bool.not_true, cond_false]
  by_cases hl : (bs a).length = (bs b).length
  ·have e1 : (!Int.ofNat (bs a).length == Int.ofNat (bs b).length) = false := by rw [hl]; simp
   have e2 : cmpI ((bs a).length : Int) ((bs b).length : Int) = 0 := (lin_cmpI.eq0 _ _).2 (by omega)
   rw [e1, cond_false, e2]
   exact hT
  ·have e1 : (!Int.ofNat (bs a).length == Int.ofNat (bs b).length) = true := by
    rw [Bool.not_eq_true', ← Bool.not_eq_true]
    intro h
    have h' : Int.ofNat (bs a).length = Int.ofNat (bs b).length := by simpa using h
    exact hl (Int.ofNat.inj h')
   have e2 : cmpI ((bs a).length : Int) ((bs b).length : Int) ≠ 0 := fun h => hl (by have := (lin_cmpI.eq0 _ _).1 h; omega)
   rw [e1, cond_true]
   unfold orC
   rw [if_neg e2]
   first | rfl | (rw [F46_is]; rfl)
end Go.Vx.Z
/-! The document's splitting. -/
namespace Go.Vx
open Go
set_option linter.unusedVariables false
theorem splitB_cons (c x : UInt8) (z : List UInt8) : splitB c (x :: z) = if x == c then [] :: splitB c z else match splitB c z with
  | [] => [[x]]
  | w :: ws => (x :: w) :: ws := rfl
theorem splitB_no (c : UInt8) : ∀ (l : List UInt8), c ∉ l → splitB c l = [l]
 | [], _ => rfl
 | x :: l, h => by
  simp only [List.mem_cons, not_or] at h
  have ih := splitB_no c l h.2
  have hx : (x == c) = false := by simpa using fun e => h.1 e.symm
  rw [splitB_cons, hx, ih]
  rfl
theorem splitB_yes (c : UInt8) : ∀ (k l : List UInt8), c ∉ k → splitB c (k ++ c :: l) = k :: splitB c l
 | [], l, _ => by
  rw [List.nil_append, splitB_cons, beq_self_eq_true]
  rfl
 | x :: k, l, h => by
  simp only [List.mem_cons, not_or] at h
  have ih := splitB_yes c k l h.2
  have hx : (x == c) = false := by simpa using fun e => h.1 e.symm
  rw [List.cons_append, splitB_cons, hx, ih]
  rfl
end Go.Vx
namespace Go.Vx.Z
open Go Go.Vx
set_option linter.unusedVariables false
set_option maxRecDepth 100000
theorem F47_is (s : ByteArray) (hs : s.size ≤ 1099511627000) : F47 (s, ()) = some (splitDot s, ()) := by
 rw [F47_eq]
 have hl := bs_size s
 obtain ⟨⟨st, parts⟩, h1, h2⟩ := loop_upto (B := B47_0) (s.size + 1) (fun i (b : Nat × List ByteArray) => (s, (b.1 : Int), (i : Int), b.2, ())) (fun b => (b.2, ()))
  (fun i b => b.1 ≤ i ∧ b.2.length ≤ i ∧ ((i ≤ s.size ∧ b.1 ≤ s.size ∧ (46 : UInt8) ∉ ((bs s).take i).drop b.1 ∧ b.2.map bs ++ splitB 46 ((bs s).drop b.1) = splitB 46 (bs s)) ∨ (i = s.size + 1 ∧ b.2.map bs = splitB 46 (bs s)))) (by
   rintro i hi ⟨st, parts⟩ ⟨q1, q2, q3⟩
   simp only at q1 q2 q3 ⊢
   rcases q3 with ⟨g1, g2, g3, g4⟩ | ⟨g1, _⟩
   ·have e0 : decide ((i : Int) ≤ Int.ofNat s.size) = true := by simp; omega
    have e2 : ∀ z : ByteArray, decide (parts.length + [z].length ≤ 8796093022208) = true := by
     intro z; rw [decide_eq_true_eq]; simp only [List.length_cons, List.length_nil]; omega
    have e3 : (decide (Int.ofNat 0 ≤ (st : Int)) && (decide ((st : Int) ≤ (i : Int)) && true)) = true := by simp; omega
    have hw : IntKind.wrap IntKind.i64 ((i : Int) + Int.ofNat 1) = ((i + 1 : Nat) : Int) := wrap64s i (by omega)
    have hex : bs (s.extract st i) = ((bs s).take i).drop st := bs_extract s st i
    rw [B47_0_eq, e0, cond_true, hw, e3, Int.toNat_natCast, Int.toNat_natCast, e2]
    simp only [cond_true]
    by_cases he : i = s.size
    ·subst he
     rw [show ((s.size : Int) == Int.ofNat s.size) = true by simp, cond_true]
     refine ⟨(s.size + 1, parts ++ [s.extract st s.size]), rfl, by simp only; omega, by simp; omega, .inr ⟨rfl, ?_⟩⟩
     simp only [List.map_append, List.map_cons, List.map_nil]
     rw [hex, ← g4]
     congr 1
     rw [List.take_of_length_le (by omega)] at g3 ⊢
     exact (splitB_no 46 _ g3).symm
    ·have hlt : i < s.size := by omega
     have hil : i < (bs s).length := by omega
     have hne0 : ((i : Int) == Int.ofNat s.size) = false := by
      rw [← Bool.not_eq_true]
      intro h
      have h' : (i : Int) = Int.ofNat s.size := by simpa using h
      simp at h'
      omega
     rw [hne0, cond_false]
     rw [ge_zero, lt_in hlt, bt_eq s i hlt]
     simp only [Bool.and_self, cond_true]
     have htk : ((bs s).take (i + 1)).drop st = ((bs s).take i).drop st ++ [(bs s)[i]] := by
      rw [List.take_succ_eq_append_getElem hil, List.drop_append_of_le_length (by simp; omega)]
     by_cases hd : (bs s)[i] = 46
     ·rw [hd, show (((46 : UInt8).toNat : Int) == Int.ofNat 46) = true from rfl, cond_true]
      refine ⟨(i + 1, parts ++ [s.extract st i]), rfl, by simp only; omega, by simp; omega, .inl ⟨by omega, by simp only; omega, by simp, ?_⟩⟩
      simp only [List.map_append, List.map_cons, List.map_nil]
      rw [hex, ← g4, List.append_assoc]
      congr 1
      have : (bs s).drop st = ((bs s).take i).drop st ++ 46 :: (bs s).drop (i + 1) := by
       rw [← hd, ← List.drop_eq_getElem_cons hil, ← List.drop_append_of_le_length (by simp; omega), List.take_append_drop]
      rw [this, splitB_yes 46 _ _ g3]
      rfl
     ·have hne : (((bs s)[i].toNat : Int) == Int.ofNat 46) = false := by
       rw [← Bool.not_eq_true]
       intro h
       have h' : ((bs s)[i].toNat : Int) = Int.ofNat 46 := by simpa using h
       apply hd
       apply UInt8.toNat_inj.1
       show (bs s)[i].toNat = 46
       simp at h'; omega
      rw [hne, cond_false]
      refine ⟨(st, parts), rfl, by simp only; omega, by simp only; omega, .inl ⟨by omega, g2, ?_, g4⟩⟩
      rw [htk, List.mem_append]
      rintro (h | h)
      ·exact g3 h
      ·exact hd (List.mem_singleton.1 h).symm
   ·omega) (by
   rintro ⟨st, parts⟩ ⟨q1, q2, q3⟩
   rw [B47_0_eq, show decide (((s.size + 1 : Nat) : Int) ≤ Int.ofNat s.size) = false by simp; omega]
   rfl) 0 (0, []) (by omega) ⟨Nat.le_refl _, by simp, .inl ⟨by omega, by simp, by simp, by simp⟩⟩
 rw [show (Int.ofNat 0 : Int) = ((0 : Nat) : Int) from rfl, h1, Option.bind_some]
 rcases h2.2.2 with ⟨g1, _⟩ | ⟨_, g2⟩
 ·omega
 ·simp only at g2 ⊢
  have : parts = splitDot s := by
   unfold splitDot
   rw [← g2, List.map_map]
   have : (lit ∘ bs) = id := by funext x; exact lit_bs x
   rw [this, List.map_id]
  rw [this]
end Go.Vx.Z
/-! The document's comparison of versions. -/
namespace Go.Vx.Z
open Go Go.Vx
set_option linter.unusedVariables false
set_option maxRecDepth 100000
theorem B26_1_is (xs ys : List ByteArray) (hx : xs.length ≤ 1099511627776) (hxs : ∀ x ∈ xs, x.size ≤ 1099511627776) (hys : ∀ x ∈ ys, x.size ≤ 1099511627776) :
  ∃ e, loop B26_1 (xs, ys, Int.ofNat 0, ()) = some e ∧ ((∃ c, e = .inl (c, ()) ∧ c ≠ 0 ∧ listC cmpW (xs.map bs) (ys.map bs) = c) ∨ (e = .inr (xs, ys, ()) ∧ listC cmpW (xs.map bs) (ys.map bs) = cmpI (xs.length : Int) (ys.length : Int))) := by
 refine loop_inv (B := B26_1) (fun p => ∃ i : Nat, i ≤ xs.length ∧ i ≤ ys.length ∧ listC cmpW (xs.map bs) (ys.map bs) = listC cmpW ((xs.drop i).map bs) ((ys.drop i).map bs) ∧ p = (xs, ys, (i : Int), ())) (fun p => (Int.ofNat xs.length - p.2.2.1).toNat)
  (fun e => (∃ c, e = .inl (c, ()) ∧ c ≠ 0 ∧ listC cmpW (xs.map bs) (ys.map bs) = c) ∨ (e = .inr (xs, ys, ()) ∧ listC cmpW (xs.map bs) (ys.map bs) = cmpI (xs.length : Int) (ys.length : Int))) (by
   rintro p ⟨i, hi, hj, hc, rfl⟩
   rw [B26_1_eq]
   by_cases h1 : i < xs.length
   ·by_cases h2 : i < ys.length
    ·rw [lt_in h1, lt_in h2, ge_zero, at_in h1, at_in h2, wrap_next h1 (by omega)]
     simp only [cond_true, Option.bind_some]
     rw [F48_is _ _ (hxs _ (List.getElem_mem h1)) (hys _ (List.getElem_mem h2)), Option.bind_some]
     rw [List.drop_eq_getElem_cons h1, List.drop_eq_getElem_cons h2, List.map_cons, List.map_cons] at hc
     have hc' : listC cmpW (xs.map bs) (ys.map bs) = orC (cmpW (bs xs[i]) (bs ys[i])) (listC cmpW ((xs.drop (i + 1)).map bs) ((ys.drop (i + 1)).map bs)) := hc
     by_cases h0 : cmpW (bs xs[i]) (bs ys[i]) = 0
     ·rw [show (!cmpW (bs xs[i]) (bs ys[i]) == Int.ofNat 0) = false by rw [h0]; rfl]
      refine .inl ⟨_, rfl, ⟨i + 1, h1, h2, ?_, rfl⟩, by simp; omega⟩
      rw [hc', h0]; rfl
     ·have hb : (!cmpW (bs xs[i]) (bs ys[i]) == Int.ofNat 0) = true := by
       rw [Bool.not_eq_true', ← Bool.not_eq_true]
       intro h; exact h0 (by simpa using h)
      rw [hb]
      refine .inr ⟨_, rfl, .inl ⟨_, rfl, h0, ?_⟩⟩
      rw [hc']; unfold orC; rw [if_neg h0]
    ·have : i = ys.length := by omega
     subst this
     rw [lt_in h1, lt_out]
     refine .inr ⟨_, rfl, .inr ⟨rfl, ?_⟩⟩
     rw [hc, List.drop_length, List.drop_eq_getElem_cons h1]
     have : cmpI (xs.length : Int) (ys.length : Int) = 1 := by unfold cmpI; rw [if_neg (by omega), if_pos (by omega)]
     rw [this]
     rfl
   ·have : i = xs.length := by omega
    subst this
    rw [lt_out]
    refine .inr ⟨_, rfl, .inr ⟨rfl, ?_⟩⟩
    rw [hc, List.drop_length]
    by_cases h2 : xs.length < ys.length
    ·rw [List.drop_eq_getElem_cons h2]
     have : cmpI (xs.length : Int) (ys.length : Int) = -1 := by unfold cmpI; rw [if_pos (by omega)]
     rw [this]
     rfl
    ·have he : xs.length = ys.length := by omega
     rw [he, List.drop_length, (lin_cmpI.eq0 _ _).2 rfl]
     rfl) _ ⟨0, by omega, by omega, by simp, rfl⟩
theorem splitDot_map (s : ByteArray) : (splitDot s).map bs = splitB 46 (bs s) := by
 unfold splitDot
 rw [List.map_map]
 have : (bs ∘ lit) = id := by funext x; exact bs_lit x
 rw [this, List.map_id]
theorem pre_is (x y : ByteArray) (hx : x.size ≤ 1099511627000) (hy : y.size ≤ 1099511627000) :
  (bif bl x == [] then
        Option.bind
         (F46 (Int.ofNat (ByteArray.size y), Int.ofNat (ByteArray.size x), ()))
         fun (r : Int × Unit) =>
         some
          (IntKind.wrap IntKind.i64
            (r.1 *
             bif
               decide
                (IntKind.wrap IntKind.i64
                  (Int.ofNat (ByteArray.size x) +
                   Int.ofNat (ByteArray.size y)) <
                 Int.ofNat 1) then
              IntKind.wrap IntKind.i64
               (Int.ofNat (ByteArray.size x) + Int.ofNat (ByteArray.size y))
             else Int.ofNat 1),
           ())
       else
        bif bl y == [] then
         Option.bind
          (F46
           (Int.ofNat (ByteArray.size y), Int.ofNat (ByteArray.size x), ()))
          fun (r : Int × Unit) =>
          some
           (IntKind.wrap IntKind.i64
             (r.1 *
              bif
                decide
                 (IntKind.wrap IntKind.i64
                   (Int.ofNat (ByteArray.size x) +
                    Int.ofNat (ByteArray.size y)) <
                  Int.ofNat 1) then
               IntKind.wrap IntKind.i64
                (Int.ofNat (ByteArray.size x) + Int.ofNat (ByteArray.size y))
              else Int.ofNat 1),
            ())
        else
         Option.bind (F47 (x, ())) fun (r : List ByteArray × Unit) =>
          Option.bind (F47 (y, ())) fun (r_3 : List ByteArray × Unit) =>
           Option.bind (loop B26_1 (r.1, r_3.1, Int.ofNat 0, ()))
            fun (r : Int × Unit ⊕ List ByteArray × List ByteArray × Unit) =>
            Sum.elim (fun (p : Int × Unit) => some (p.1, ()))
             (fun (p : List ByteArray × List ByteArray × Unit) =>
              Option.bind (F46 (Int.ofNat (List.length p.1), Int.ofNat (List.length p.2.1), ()))
               fun (r : Int × Unit) => some (r.1, ()))
             r) = some (cmpP (bs x) (bs y), ()) := by
 have lx := bs_size x
 have ly := bs_size y
 rw [bs_toList, bs_toList, F46_is, Option.bind_some]
 have hsum : IntKind.wrap IntKind.i64 (Int.ofNat x.size + Int.ofNat y.size) = ((x.size + y.size : Nat) : Int) := by
  rw [show Int.ofNat x.size + Int.ofNat y.size = ((x.size + y.size : Nat) : Int) by simp]
  exact wrap64 (by omega) (by omega)
 rw [hsum]
 cases hbx : bs x with
 | nil =>
  rw [hbx] at lx
  have hx0 : x.size = 0 := lx
  cases hby : bs y with
  | nil =>
   rw [hby] at ly
   have hy0 : y.size = 0 := ly
   rw [hx0, hy0]
   rfl
  | cons b l =>
   rw [hby] at ly
   have hy1 : 0 < y.size := by rw [ly]; simp
   have e1 : cmpI (Int.ofNat y.size) (Int.ofNat x.size) = 1 := by unfold cmpI; rw [if_neg (by simp; omega), if_pos (by simp; omega)]
   have e2 : decide (((x.size + y.size : Nat) : Int) < Int.ofNat 1) = false := by simp; omega
   rw [e1, e2]
   rfl
 | cons a k =>
  rw [hbx] at lx
  have hx1 : 0 < x.size := by rw [lx]; simp
  cases hby : bs y with
  | nil =>
   rw [hby] at ly
   have hy0 : y.size = 0 := ly
   have e1 : cmpI (Int.ofNat y.size) (Int.ofNat x.size) = -1 := by unfold cmpI; rw [if_pos (by simp; omega)]
   have e2 : decide (((x.size + y.size : Nat) : Int) < Int.ofNat 1) = false := by simp; omega
   rw [e1, e2]
   rfl
  | cons b l =>
   show (Option.bind (F47 (x, ())) _) = _
   rw [F47_is x hx, Option.bind_some, F47_is y hy, Option.bind_some]
   obtain ⟨e, h1, h2⟩ := B26_1_is (splitDot x) (splitDot y) (by
    have h := splitB_length 46 (bs x)
    have hc := List.count_le_length (a := (46 : UInt8)) (l := bs x)
    unfold splitDot
    rw [List.length_map, h, hbx] at *
    omega) (fun z hz => by have := splitDot_sizes x z hz; omega) (fun z hz => by have := splitDot_sizes y z hz; omega)
   rw [splitDot_map, splitDot_map, hbx, hby] at h2
   have hP : cmpP (a :: k) (b :: l) = listC cmpW (splitB 46 (a :: k)) (splitB 46 (b :: l)) := rfl
   simp only
   rw [h1, Option.bind_some, hP]
   rcases h2 with ⟨c, rfl, _, h3⟩ | ⟨rfl, h3⟩
   ·rw [h3]; rfl
   ·rw [h3]
    show (Option.bind (F46 _) _) = _
    rw [F46_is]
    rfl
end Go.Vx.Z
/-! The document's comparison of versions is the program's. -/
namespace Go.Vx.Z
open Go Go.Vx
set_option linter.unusedVariables false
set_option maxRecDepth 100000
theorem F26_is (a b : Ver) (ha : okV a = true) (hb : okV b = true) : F26 (a.1, a.2.1, a.2.2.1, a.2.2.2.1, b.1, b.2.1, b.2.2.1, b.2.2.2.1, ()) = some (cmpV a b, ()) := by
 have ha' : a.2.2.2.1.size ≤ 1099511627000 := of_decide_eq_true ha
 have hb' : b.2.2.2.1.size ≤ 1099511627000 := of_decide_eq_true hb
 have hV : cmpV a b = orC (cmpI a.1 b.1) (orC (cmpI a.2.1 b.2.1) (orC (cmpI a.2.2.1 b.2.2.1) (cmpP (bs a.2.2.2.1) (bs b.2.2.2.1)))) := rfl
 rw [F26_eq, F46_is, Option.bind_some, F46_is, Option.bind_some, F46_is, Option.bind_some]
 simp only
 generalize hc1 : cmpI a.1 b.1 = c1 at hV
 generalize hc2 : cmpI a.2.1 b.2.1 = c2 at hV
 generalize hc3 : cmpI a.2.2.1 b.2.2.1 = c3 at hV
 have hst : ∀ (i : Nat) (c : Int), [c1, c2, c3][i]? = some c → B26_0 ((i : Int), a.1, a.2.1, a.2.2.1, a.2.2.2.1, b.1, b.2.1, b.2.2.1, b.2.2.2.1, [c1, c2, c3], ()) =
   some (if c = 0 then .inl (((i + 1 : Nat) : Int), a.1, a.2.1, a.2.2.1, a.2.2.2.1, b.1, b.2.1, b.2.2.1, b.2.2.2.1, [c1, c2, c3], ()) else .inr (.inl (c, ()))) := by
  intro i c hc
  have hi : i < 3 := (List.getElem?_eq_some_iff.1 hc).1
  rw [B26_0_eq, show decide ((i : Int) < Int.ofNat 3) = true by simp; omega, ge_zero, Int.toNat_natCast, hc, wrap_next hi (by omega)]
  simp only [cond_true, Option.bind_some]
  by_cases h0 : c = 0
  ·rw [if_pos h0, show (!c == Int.ofNat 0) = false by rw [h0]; rfl]; rfl
  ·have hb0 : (!c == Int.ofNat 0) = true := by
    rw [Bool.not_eq_true', ← Bool.not_eq_true]
    intro h; exact h0 (by simpa using h)
   rw [if_neg h0, hb0]; rfl
 have s0 := hst 0 c1 rfl
 have s1 := hst 1 c2 rfl
 have s2 := hst 2 c3 rfl
 have s3 : B26_0 (((3 : Nat) : Int), a.1, a.2.1, a.2.2.1, a.2.2.2.1, b.1, b.2.1, b.2.2.1, b.2.2.2.1, [c1, c2, c3], ()) = some (.inr (.inr (a.1, a.2.1, a.2.2.1, a.2.2.2.1, b.1, b.2.1, b.2.2.1, b.2.2.2.1, ()))) := by
  rw [B26_0_eq]; rfl
 rw [show (Int.ofNat 0 : Int) = ((0 : Nat) : Int) from rfl]
 by_cases h1 : c1 = 0
 ·rw [if_pos h1] at s0
  by_cases h2 : c2 = 0
  ·rw [if_pos h2] at s1
   by_cases h3 : c3 = 0
   ·rw [if_pos h3] at s2
    rw [loop_step s0 (loop_step s1 (loop_step s2 (loop_end s3))), Option.bind_some]
    have hp := pre_is a.2.2.2.1 b.2.2.2.1 ha' hb'
    refine hp.trans ?_
    rw [hV, h1, h2, h3]; rfl
   ·rw [if_neg h3] at s2
    rw [loop_step s0 (loop_step s1 (loop_end s2)), Option.bind_some, hV, h1, h2]
    show some (c3, ()) = some (orC c3 _, ())
    unfold orC; rw [if_neg h3]
  ·rw [if_neg h2] at s1
   rw [loop_step s0 (loop_end s1), Option.bind_some, hV, h1]
   show some (c2, ()) = some (orC c2 _, ())
   unfold orC; rw [if_neg h2]
 ·rw [if_neg h1] at s0
  rw [loop_end s0, Option.bind_some, hV]
  show some (c1, ()) = some (orC c1 _, ())
  unfold orC; rw [if_neg h1]
end Go.Vx.Z
/-! The document's spans: normed. -/
namespace Go.Vx.Z
open Go Go.Vx
set_option linter.unusedVariables false
theorem kOf_1 (s : Span) : (kOf s).1 = ptOf s.lo s.above false := by
 unfold kOf pieceOf Span.lo Span.above
 cases s.2.2.2.2.2.2.2.2.2.2.1 <;> rfl
theorem kOf_2 (s : Span) : (kOf s).2 = if s.op then pEnd else ptOf s.hi s.isIn false := by
 unfold kOf pieceOf Span.hi Span.isIn Span.op
 cases s.2.2.2.2.2.2.2.2.2.2.1 <;> rfl
theorem c_pt (u v : Ver) (a b : Bool) : (ptOf u a false).c (ptOf v b false) = orC (cmpV u v) (cmpI (if a then 1 else 0) (if b then 1 else 0)) := by
 show orC (cmpI 0 0) _ = _
 rw [show cmpI 0 0 = 0 from rfl]
 simp only [orC, if_true]
 rfl
theorem lt_pt (u v : Ver) (a b : Bool) : decide (ptOf u a false < ptOf v b false) = (decide (cmpV u v < 0) || cmpV u v == 0 && (!a && b)) := by
 show decide ((ptOf u a false).c (ptOf v b false) < 0) = _
 rw [c_pt]
 unfold orC
 rcases lin_cmpV.rng u v with e | e | e <;> rw [e] <;> cases a <;> cases b <;> rfl
theorem le_pt (u v : Ver) (a b : Bool) : decide (ptOf u a false ≤ ptOf v b false) = (decide (cmpV u v < 0) || cmpV u v == 0 && (!a || b)) := by
 show decide ((ptOf u a false).c (ptOf v b false) ≤ 0) = _
 rw [c_pt]
 unfold orC
 rcases lin_cmpV.rng u v with e | e | e <;> rw [e] <;> cases a <;> cases b <;> rfl
theorem lt_end (u : Ver) (a : Bool) : ptOf u a false < pEnd := by
 show Pt.c _ _ < 0
 have : Pt.c (ptOf u a false) pEnd = -1 := by cases a <;> rfl
 omega
theorem end_lt (u : Ver) (a : Bool) : ¬ pEnd < ptOf u a false := by
 show ¬ Pt.c _ _ < 0
 have : Pt.c pEnd (ptOf u a false) = 1 := by cases a <;> rfl
 omega
theorem end_end : ¬ pEnd < pEnd := by
 show ¬ Pt.c _ _ < 0
 rw [lin_pt.self]; omega
theorem cmpV_swap (u v : Ver) : cmpV v u = - cmpV u v := lin_cmpV.anti u v
abbrev args (s : Span) (X : Type) (k : Int → Int → Int → ByteArray → Int → Int → Int → ByteArray → Bool → Bool → Bool → X) : X := k s.1 s.2.1 s.2.2.1 s.2.2.2.1 s.2.2.2.2.1 s.2.2.2.2.2.1 s.2.2.2.2.2.2.1 s.2.2.2.2.2.2.2.1 s.2.2.2.2.2.2.2.2.1 s.2.2.2.2.2.2.2.2.2.1 s.2.2.2.2.2.2.2.2.2.2.1
theorem F58_is (s : Span) (h : okS s = true) : F58 (s.1, s.2.1, s.2.2.1, s.2.2.2.1, s.2.2.2.2.1, s.2.2.2.2.2.1, s.2.2.2.2.2.2.1, s.2.2.2.2.2.2.2.1, s.2.2.2.2.2.2.2.2.1, s.2.2.2.2.2.2.2.2.2.1, s.2.2.2.2.2.2.2.2.2.2.1, ()) = some (!Pc.full (kOf s), ()) := by
 simp only [okS, Bool.and_eq_true] at h
 have h1 : F26 (s.2.2.2.2.1, s.2.2.2.2.2.1, s.2.2.2.2.2.2.1, s.2.2.2.2.2.2.2.1, s.1, s.2.1, s.2.2.1, s.2.2.2.1, ()) = some (cmpV s.hi s.lo, ()) := F26_is s.hi s.lo h.2 h.1
 rw [F58_eq, h1, Option.bind_some]
 unfold Pc.full
 rw [kOf_1, kOf_2]
 cases hop : s.2.2.2.2.2.2.2.2.2.2.1 with
 | true => rw [show s.op = true from hop, if_pos rfl, decide_eq_true (lt_end _ _)]; rfl
 | false =>
  rw [show s.op = false from hop, if_neg (by simp), lt_pt, cmpV_swap s.hi s.lo]
  show (bif !false then _ else _) = _
  have e1 : s.2.2.2.2.2.2.2.2.1 = s.above := rfl
  have e2 : s.2.2.2.2.2.2.2.2.2.1 = s.isIn := rfl
  simp only [e1, e2]
  rcases lin_cmpV.rng s.hi s.lo with e | e | e <;> rw [e] <;> cases s.above <;> cases s.isIn <;> rfl
theorem F59_is (s t : Span) (hs : okS s = true) (ht : okS t = true) : F59 (s.1, s.2.1, s.2.2.1, s.2.2.2.1, s.2.2.2.2.1, s.2.2.2.2.2.1, s.2.2.2.2.2.2.1, s.2.2.2.2.2.2.2.1, s.2.2.2.2.2.2.2.2.1, s.2.2.2.2.2.2.2.2.2.1, s.2.2.2.2.2.2.2.2.2.2.1, t.1, t.2.1, t.2.2.1, t.2.2.2.1, t.2.2.2.2.1, t.2.2.2.2.2.1, t.2.2.2.2.2.2.1, t.2.2.2.2.2.2.2.1, t.2.2.2.2.2.2.2.2.1, t.2.2.2.2.2.2.2.2.2.1, t.2.2.2.2.2.2.2.2.2.2.1, ()) =
  some (decide ((kOf s).1 < (kOf t).1), ()) := by
 simp only [okS, Bool.and_eq_true] at hs ht
 have h1 : F26 (s.1, s.2.1, s.2.2.1, s.2.2.2.1, t.1, t.2.1, t.2.2.1, t.2.2.2.1, ()) = some (cmpV s.lo t.lo, ()) := F26_is s.lo t.lo hs.1 ht.1
 rw [F59_eq, h1, Option.bind_some, kOf_1, kOf_1, lt_pt]
 have e1 : s.2.2.2.2.2.2.2.2.1 = s.above := rfl
 have e2 : t.2.2.2.2.2.2.2.2.1 = t.above := rfl
 simp only [e1, e2]
 rcases lin_cmpV.rng s.lo t.lo with e | e | e <;> rw [e] <;> cases s.above <;> cases t.above <;> rfl
theorem F60_is (s t : Span) (hs : okS s = true) (ht : okS t = true) : F60 (s.1, s.2.1, s.2.2.1, s.2.2.2.1, s.2.2.2.2.1, s.2.2.2.2.2.1, s.2.2.2.2.2.2.1, s.2.2.2.2.2.2.2.1, s.2.2.2.2.2.2.2.2.1, s.2.2.2.2.2.2.2.2.2.1, s.2.2.2.2.2.2.2.2.2.2.1, t.1, t.2.1, t.2.2.1, t.2.2.2.1, t.2.2.2.2.1, t.2.2.2.2.2.1, t.2.2.2.2.2.2.1, t.2.2.2.2.2.2.2.1, t.2.2.2.2.2.2.2.2.1, t.2.2.2.2.2.2.2.2.2.1, t.2.2.2.2.2.2.2.2.2.2.1, ()) =
  some (decide ((kOf s).2 < (kOf t).1), ()) := by
 simp only [okS, Bool.and_eq_true] at hs ht
 have h1 : F26 (s.2.2.2.2.1, s.2.2.2.2.2.1, s.2.2.2.2.2.2.1, s.2.2.2.2.2.2.2.1, t.1, t.2.1, t.2.2.1, t.2.2.2.1, ()) = some (cmpV s.hi t.lo, ()) := F26_is s.hi t.lo hs.2 ht.1
 rw [F60_eq, kOf_1, kOf_2]
 cases hop : s.2.2.2.2.2.2.2.2.2.2.1 with
 | true => rw [show s.op = true from hop, if_pos rfl, decide_eq_false (end_lt _ _)]; rfl
 | false =>
  rw [show s.op = false from hop, if_neg (by simp), lt_pt, h1]
  have e1 : s.2.2.2.2.2.2.2.2.2.1 = s.isIn := rfl
  have e2 : t.2.2.2.2.2.2.2.2.1 = t.above := rfl
  simp only [e1, e2, cond_false, Option.bind_some]
  rcases lin_cmpV.rng s.hi t.lo with e | e | e <;> rw [e] <;> cases s.isIn <;> cases t.above <;> rfl
theorem F61_is (s t : Span) (hs : okS s = true) (ht : okS t = true) : F61 (s.1, s.2.1, s.2.2.1, s.2.2.2.1, s.2.2.2.2.1, s.2.2.2.2.2.1, s.2.2.2.2.2.2.1, s.2.2.2.2.2.2.2.1, s.2.2.2.2.2.2.2.2.1, s.2.2.2.2.2.2.2.2.2.1, s.2.2.2.2.2.2.2.2.2.2.1, t.1, t.2.1, t.2.2.1, t.2.2.2.1, t.2.2.2.2.1, t.2.2.2.2.2.1, t.2.2.2.2.2.2.1, t.2.2.2.2.2.2.2.1, t.2.2.2.2.2.2.2.2.1, t.2.2.2.2.2.2.2.2.2.1, t.2.2.2.2.2.2.2.2.2.2.1, ()) =
  some (decide ((kOf t).2 < (kOf s).2), ()) := by
 simp only [okS, Bool.and_eq_true] at hs ht
 have h1 : F26 (s.2.2.2.2.1, s.2.2.2.2.2.1, s.2.2.2.2.2.2.1, s.2.2.2.2.2.2.2.1, t.2.2.2.2.1, t.2.2.2.2.2.1, t.2.2.2.2.2.2.1, t.2.2.2.2.2.2.2.1, ()) = some (cmpV s.hi t.hi, ()) := F26_is s.hi t.hi hs.2 ht.2
 rw [F61_eq, kOf_2, kOf_2]
 cases hop : s.2.2.2.2.2.2.2.2.2.2.1 with
 | true =>
  rw [show s.op = true from hop]
  simp only [if_true]
  cases hot : t.2.2.2.2.2.2.2.2.2.2.1 with
  | true => rw [show t.op = true from hot]; simp only [if_true]; rw [decide_eq_false end_end]; rfl
  | false => rw [show t.op = false from hot]; simp only [Bool.false_eq_true, if_false]; rw [decide_eq_true (lt_end _ _)]; rfl
 | false =>
  rw [show s.op = false from hop]
  simp only [Bool.false_eq_true, if_false]
  cases hot : t.2.2.2.2.2.2.2.2.2.2.1 with
  | true => rw [show t.op = true from hot]; simp only [if_true]; rw [decide_eq_false (end_lt _ _)]; rfl
  | false =>
   rw [show t.op = false from hot]
   simp only [Bool.false_eq_true, if_false]
   rw [lt_pt, h1, cmpV_swap s.hi t.hi]
   have e1 : s.2.2.2.2.2.2.2.2.2.1 = s.isIn := rfl
   have e2 : t.2.2.2.2.2.2.2.2.2.1 = t.isIn := rfl
   simp only [e1, e2, cond_false, Option.bind_some]
   rcases lin_cmpV.rng s.hi t.hi with e | e | e <;> rw [e] <;> cases s.isIn <;> cases t.isIn <;> rfl
def fixD (y : Span) : Span := bif y.2.2.2.2.2.2.2.2.2.2.1 then (y.1, y.2.1, y.2.2.1, y.2.2.2.1, Int.ofNat 0, Int.ofNat 0, Int.ofNat 0, (lit []), y.2.2.2.2.2.2.2.2.1, false, y.2.2.2.2.2.2.2.2.2.2.1, ()) else (y.1, y.2.1, y.2.2.1, y.2.2.2.1, y.2.2.2.2.1, y.2.2.2.2.2.1, y.2.2.2.2.2.2.1, y.2.2.2.2.2.2.2.1, y.2.2.2.2.2.2.2.2.1, y.2.2.2.2.2.2.2.2.2.1, y.2.2.2.2.2.2.2.2.2.2.1, ())
def canS (s : Span) : Prop := okS s = true ∧ (s.op = true → s.hi = v0 ∧ s.isIn = false)
theorem fixD_can {y : Span} (h : okS y = true) : canS (fixD y) := by
 simp only [okS, Bool.and_eq_true] at h
 unfold canS okS fixD
 cases hop : y.2.2.2.2.2.2.2.2.2.2.1 with
 | true => exact ⟨by simp only [cond_true, Bool.and_eq_true]; exact ⟨h.1, rfl⟩, fun _ => ⟨rfl, rfl⟩⟩
 | false => exact ⟨by simp only [cond_false, Bool.and_eq_true]; exact h, fun hc => by cases hc⟩
theorem fixD_k (y : Span) : kOf (fixD y) = kOf y := by
 unfold kOf pieceOf fixD
 cases y.2.2.2.2.2.2.2.2.2.2.1 <;> rfl
theorem spanP_kOf {s : Span} (h : canS s) : spanP (kOf s) = s := by
 obtain ⟨a, b, c, d, a', b', c', d', u, v, w, x⟩ := s
 obtain ⟨_, h⟩ := h
 cases w with
 | true =>
  obtain ⟨h1, h2⟩ := h rfl
  simp only [Span.hi, v0, Prod.mk.injEq] at h1
  obtain ⟨rfl, rfl, rfl, rfl, _⟩ := h1
  have h2 : v = false := h2
  subst h2
  cases u <;> rfl
 | false => cases u <;> cases v <;> rfl
end Go.Vx.Z
/-! The document's Norm. -/
namespace Go.Vx.Z
open Go Go.Vx
set_option linter.unusedVariables false
theorem wrap_pred {k n : Nat} (h0 : 0 < k) (h : k ≤ n) (hn : n ≤ big) : IntKind.wrap IntKind.i64 ((k : Int) - Int.ofNat 1) = ((k - 1 : Nat) : Int) := by
 show IntKind.wrap IntKind.i64 ((k : Int) - 1) = _
 simp only [big] at hn
 rw [wrap64 (by omega) (by omega)]; omega
theorem ins_at (x0 : List Span) (x1 : Int) (s : List Span) (x : Span) (hx : okS x = true) (hs : ∀ t ∈ s, okS t = true) (hl : s.length ≤ big) : ∀ k, k ≤ s.length → (∀ j (h : j < s.length), k ≤ j → (kOf x).1 < (kOf s[j]).1) →
  ∃ k', k' ≤ s.length ∧ loop B36_0 (x0, x1, (k : Int), s, x.1, x.2.1, x.2.2.1, x.2.2.2.1, x.2.2.2.2.1, x.2.2.2.2.2.1, x.2.2.2.2.2.2.1, x.2.2.2.2.2.2.2.1, x.2.2.2.2.2.2.2.2.1, x.2.2.2.2.2.2.2.2.2.1, x.2.2.2.2.2.2.2.2.2.2.1, ()) = some (x0, x1, (k' : Int), s, x.1, x.2.1, x.2.2.1, x.2.2.2.1, x.2.2.2.2.1, x.2.2.2.2.2.1, x.2.2.2.2.2.2.1, x.2.2.2.2.2.2.2.1, x.2.2.2.2.2.2.2.2.1, x.2.2.2.2.2.2.2.2.2.1, x.2.2.2.2.2.2.2.2.2.2.1, ()) ∧ (∀ j (h : j < s.length), k' ≤ j → (kOf x).1 < (kOf s[j]).1) ∧ ∀ h : k' - 1 < s.length, 0 < k' → ¬ (kOf x).1 < (kOf s[k' - 1]).1 := by
 intro k
 induction k with
 | zero =>
  intro _ hj
  refine ⟨0, Nat.zero_le _, loop_end ?_, hj, fun _ h => absurd h (by omega)⟩
  rw [B36_0_eq]
  rfl
 | succ k ih =>
  intro hk hj
  have hkl : k < s.length := by omega
  have e0 : decide (((k + 1 : Nat) : Int) > Int.ofNat 0) = true := decide_eq_true (by show (0 : Int) < _; omega)
  have e1 : IntKind.wrap IntKind.i64 (((k + 1 : Nat) : Int) - Int.ofNat 1) = (k : Int) := by rw [wrap_pred (by omega) hk hl]; simp
  have hb : B36_0 (x0, x1, ((k + 1 : Nat) : Int), s, x.1, x.2.1, x.2.2.1, x.2.2.2.1, x.2.2.2.2.1, x.2.2.2.2.2.1, x.2.2.2.2.2.2.1, x.2.2.2.2.2.2.2.1, x.2.2.2.2.2.2.2.2.1, x.2.2.2.2.2.2.2.2.2.1, x.2.2.2.2.2.2.2.2.2.2.1, ()) = some (bif decide ((kOf x).1 < (kOf s[k]).1) then .inl (x0, x1, (k : Int), s, x.1, x.2.1, x.2.2.1, x.2.2.2.1, x.2.2.2.2.1, x.2.2.2.2.2.1, x.2.2.2.2.2.2.1, x.2.2.2.2.2.2.2.1, x.2.2.2.2.2.2.2.2.1, x.2.2.2.2.2.2.2.2.2.1, x.2.2.2.2.2.2.2.2.2.2.1, ()) else .inr (x0, x1, ((k + 1 : Nat) : Int), s, x.1, x.2.1, x.2.2.1, x.2.2.2.1, x.2.2.2.2.1, x.2.2.2.2.2.1, x.2.2.2.2.2.2.1, x.2.2.2.2.2.2.2.1, x.2.2.2.2.2.2.2.2.1, x.2.2.2.2.2.2.2.2.2.1, x.2.2.2.2.2.2.2.2.2.2.1, ())) := by
   rw [B36_0_eq]
   simp only [e0, e1, cond_true, ge_zero, at_in hkl, Option.bind_some]
   rw [F59_is x s[k] hx (hs _ (List.getElem_mem hkl))]
   simp only [Option.bind_some]
   cases decide ((kOf x).1 < (kOf s[k]).1) <;> rfl
  by_cases hc : (kOf x).1 < (kOf s[k]).1
  ·rw [decide_eq_true hc] at hb
   obtain ⟨k', h1, h2, h3⟩ := ih (by omega) fun j h h5 => by
    by_cases he : j = k
    ·subst he; exact hc
    ·exact hj j h (by omega)
   exact ⟨k', h1, loop_step hb h2, h3⟩
  ·rw [decide_eq_false hc] at hb
   exact ⟨k + 1, hk, loop_end hb, hj, fun _ _ => by simpa using hc⟩
theorem insert_step (x0 : List Span) (i : Nat) (hi : i < x0.length) (s : List Span) (hy : okS x0[i] = true) (hs : ∀ t ∈ s, okS t = true) (hl : s.length < big) (hxl : x0.length ≤ big) (hf : Pc.full (kOf x0[i]) = true) :
  ∃ k, k ≤ s.length ∧ B36_1 (x0, (i : Int), s, ()) = some (.inl (x0, ((i + 1 : Nat) : Int), s.take k ++ [fixD x0[i]] ++ s.drop k, ())) ∧ (∀ j (h : j < s.length), k ≤ j → (kOf x0[i]).1 < (kOf s[j]).1) ∧ ∀ h : k - 1 < s.length, 0 < k → ¬ (kOf x0[i]).1 < (kOf s[k - 1]).1 := by
 have hx := (fixD_can hy).1
 obtain ⟨k, h1, h2, h3, h4⟩ := ins_at x0 (i : Int) s (fixD x0[i]) hx hs (Nat.le_of_lt hl) s.length (Nat.le_refl _) fun j h h5 => absurd h (by omega)
 rw [fixD_k] at h3 h4
 refine ⟨k, h1, ?_, h3, h4⟩
 have hb : big = 1099511627776 := rfl
 rw [B36_1_eq]
 simp only [lt_in hi, cond_true, ge_zero, at_in hi, Option.bind_some]
 rw [F58_is _ hy, hf]
 simp only [Option.bind_some, Bool.not_true, cond_false]
 have e1 : decide (Int.ofNat 0 ≤ (k : Int)) = true := ge_zero k
 have e2 : decide ((k : Int) ≤ Int.ofNat s.length) = true := decide_eq_true (by show (k : Int) ≤ (s.length : Int); omega)
 have e3 : decide (Int.ofNat s.length ≤ Int.ofNat s.length) = true := by simp
 have e4 : decide (0 + (s.take k).length ≤ 1599289640401) = true := decide_eq_true (by rw [List.length_take]; omega)
 have e5 : ∀ z : R7, decide ((s.take k).length + List.length [z] ≤ 1599289640401) = true := fun z => decide_eq_true (by rw [List.length_take, List.length_singleton]; omega)
 have e6 : ∀ z : R7, decide ((s.take k ++ [z]).length + (s.drop k).length ≤ 1599289640401) = true := fun z => decide_eq_true (by rw [List.length_append, List.length_take, List.length_drop, List.length_singleton]; omega)
 have e7 : Int.toNat (Int.ofNat s.length) = s.length := rfl
 have hw := wrap_next (i := i) hi (by omega)
 cases hop : x0[i].2.2.2.2.2.2.2.2.2.2.1 with
 | true =>
  have hfx : fixD x0[i] = (x0[i].1, x0[i].2.1, x0[i].2.2.1, x0[i].2.2.2.1, Int.ofNat 0, Int.ofNat 0, Int.ofNat 0, (lit []), x0[i].2.2.2.2.2.2.2.2.1, false, x0[i].2.2.2.2.2.2.2.2.2.2.1, ()) := by simp only [fixD, hop, cond_true]
  rw [hfx] at h2 ⊢
  simp only [hop] at h2 ⊢
  have h2' : loop B36_0 (x0, (i : Int), Int.ofNat s.length, s, _, _, _, _, _, _, _, _, _, _, _, ()) = _ := h2
  rw [h2']
  simp only [Option.bind_some, Int.toNat_natCast, List.drop_zero, List.nil_append, e1, e2, e3, e4, e5, e6, e7, List.take_length, hw, Bool.and_self, cond_true]
 | false =>
  have hfx : fixD x0[i] = (x0[i].1, x0[i].2.1, x0[i].2.2.1, x0[i].2.2.2.1, x0[i].2.2.2.2.1, x0[i].2.2.2.2.2.1, x0[i].2.2.2.2.2.2.1, x0[i].2.2.2.2.2.2.2.1, x0[i].2.2.2.2.2.2.2.2.1, x0[i].2.2.2.2.2.2.2.2.2.1, x0[i].2.2.2.2.2.2.2.2.2.2.1, ()) := by simp only [fixD, hop, cond_false]
  rw [hfx] at h2 ⊢
  simp only [hop] at h2 ⊢
  have h2' : loop B36_0 (x0, (i : Int), Int.ofNat s.length, s, _, _, _, _, _, _, _, _, _, _, _, ()) = _ := h2
  rw [h2']
  simp only [Option.bind_some, Int.toNat_natCast, List.drop_zero, List.nil_append, e1, e2, e3, e4, e5, e6, e7, List.take_length, hw, Bool.and_self, cond_true]
  rfl
end Go.Vx.Z
/-! The document's Norm is the program's. -/
namespace Go.Vx.Z
open Go Go.Vx
set_option linter.unusedVariables false
theorem skip_step (x0 : List Span) (i : Nat) (hi : i < x0.length) (s : List Span) (hy : okS x0[i] = true) (hxl : x0.length ≤ big) (hf : Pc.full (kOf x0[i]) = false) : B36_1 (x0, (i : Int), s, ()) = some (.inl (x0, ((i + 1 : Nat) : Int), s, ())) := by
 have hb : big = 1099511627776 := rfl
 rw [B36_1_eq]
 simp only [lt_in hi, cond_true, ge_zero, at_in hi, Option.bind_some]
 rw [F58_is _ hy, hf]
 simp only [Option.bind_some, Bool.not_false, cond_true, wrap_next (i := i) hi (show x0.length ≤ _ by omega)]
theorem sorted_ins {s : List Span} {x : Span} {k : Nat} (hk : k ≤ s.length) (hs : (s.map kOf).Pairwise fun p q => p.1 ≤ q.1) (h1 : ∀ j (h : j < s.length), k ≤ j → (kOf x).1 < (kOf s[j]).1) (h2 : ∀ h : k - 1 < s.length, 0 < k → ¬ (kOf x).1 < (kOf s[k - 1]).1) :
  ((s.take k ++ [x] ++ s.drop k).map kOf).Pairwise fun p q => p.1 ≤ q.1 := by
 rw [List.pairwise_map] at hs ⊢
 have hs' := hs
 rw [← List.take_append_drop k s] at hs
 obtain ⟨a1, a2, a3⟩ := List.pairwise_append.1 hs
 have hle : ∀ t ∈ s.take k, (kOf t).1 ≤ (kOf x).1 := by
  intro t ht
  obtain ⟨j, hj, rfl⟩ := List.getElem_of_mem ht
  rw [List.length_take] at hj
  rw [List.getElem_take]
  have h3 := h2 (by omega) (by omega)
  have h4 : (kOf s[j]).1 ≤ (kOf s[k - 1]).1 := by
   by_cases he : j = k - 1
   ·subst he; grind
   ·exact List.pairwise_iff_getElem.1 hs' j (k - 1) (by omega) (by omega) (by omega)
  grind
 have hge : ∀ t ∈ s.drop k, (kOf x).1 ≤ (kOf t).1 := by
  intro t ht
  obtain ⟨j, hj, rfl⟩ := List.getElem_of_mem ht
  rw [List.length_drop] at hj
  rw [List.getElem_drop]
  have h3 := h1 (k + j) (by omega) (by omega)
  grind
 rw [List.append_assoc, List.pairwise_append]
 refine ⟨a1, ?_, ?_⟩
 ·rw [List.singleton_append, List.pairwise_cons]
  exact ⟨hge, a2⟩
 ·intro t ht u hu
  rcases List.mem_append.1 hu with h | h
  ·rw [List.mem_singleton.1 h]; exact hle t ht
  ·exact a3 t ht u h
theorem sort_is (l : List Span) (hok : ∀ s ∈ l, okS s = true) (hl : l.length < big) : ∃ s : List Span, loop B36_1 (l, Int.ofNat 0, [], ()) = some (s, ()) ∧ (∀ t ∈ s, canS t) ∧ s.length ≤ l.length ∧ (s.map kOf).Perm ((l.map kOf).filter Pc.full) ∧ (s.map kOf).Pairwise fun p q => p.1 ≤ q.1 := by
 obtain ⟨s, h1, h2, h3, h4, h5⟩ := loop_upto (B := B36_1) l.length (fun i (s : List Span) => (l, (i : Int), s, ())) (fun s => (s, ()))
  (fun i s => (∀ t ∈ s, canS t) ∧ s.length ≤ i ∧ (s.map kOf).Perm (((l.take i).map kOf).filter Pc.full) ∧ (s.map kOf).Pairwise fun p q => p.1 ≤ q.1)
  (fun i hi s ⟨i1, i2, i3, i4⟩ => by
   have hy := hok _ (List.getElem_mem hi)
   have htk : ((l.take (i + 1)).map kOf).filter Pc.full = ((l.take i).map kOf).filter Pc.full ++ [kOf l[i]].filter Pc.full := by
    rw [List.take_succ_eq_append_getElem hi, List.map_append, List.filter_append]; rfl
   cases hf : Pc.full (kOf l[i]) with
   | false =>
    refine ⟨s, skip_step l i hi s hy (Nat.le_of_lt hl) hf, i1, by omega, ?_, i4⟩
    rw [htk, List.filter_cons_of_neg (by simp [hf]), List.filter_nil, List.append_nil]
    exact i3
   | true =>
    obtain ⟨k, k1, k2, k3, k4⟩ := insert_step l i hi s hy (fun t ht => (i1 t ht).1) (by omega) (Nat.le_of_lt hl) hf
    refine ⟨_, k2, ?_, ?_, ?_, ?_⟩
    ·intro t ht
     rw [List.append_assoc] at ht
     rcases List.mem_append.1 ht with h | h
     ·exact i1 t (List.mem_of_mem_take h)
     ·rcases List.mem_append.1 h with h | h
      ·rw [List.mem_singleton.1 h]; exact fixD_can hy
      ·exact i1 t (List.mem_of_mem_drop h)
    ·simp only [List.length_append, List.length_take, List.length_drop, List.length_singleton]; omega
    ·rw [htk, List.filter_cons_of_pos hf, List.filter_nil]
     have e : (List.map kOf (List.take k s ++ [fixD l[i]] ++ List.drop k s)).Perm (s.map kOf ++ [kOf l[i]]) := by
      rw [← fixD_k l[i]]
      show (List.map kOf (List.take k s ++ [fixD l[i]] ++ List.drop k s)).Perm (List.map kOf s ++ List.map kOf [fixD l[i]])
      rw [← List.map_append]
      refine List.Perm.map _ ?_
      conv => rhs; rw [← List.take_append_drop k s]
      rw [List.append_assoc, List.append_assoc]
      exact (List.perm_append_comm).append_left _
     exact e.trans (i3.append_right _)
    ·have k3' := k3
     rw [← fixD_k l[i]] at k3' k4
     exact sorted_ins k1 i4 k3' k4)
  (fun s ⟨i1, i2, i3, i4⟩ => by
   rw [B36_1_eq]
   simp only [lt_out, cond_false])
  0 [] (Nat.zero_le _) ⟨by simp, Nat.le_refl _, by simp, by simp⟩
 rw [List.take_length] at h4
 exact ⟨s, h1, h2, h3, h4, h5⟩
def setHi (q x : Span) : Span := (q.1, q.2.1, q.2.2.1, q.2.2.2.1, x.2.2.2.2.1, x.2.2.2.2.2.1, x.2.2.2.2.2.2.1, x.2.2.2.2.2.2.2.1, q.2.2.2.2.2.2.2.2.1, x.2.2.2.2.2.2.2.2.2.1, x.2.2.2.2.2.2.2.2.2.2.1, ())
theorem setHi_k (q x : Span) : kOf (setHi q x) = ((kOf q).1, (kOf x).2) := by
 have h1 := kOf_1 (setHi q x)
 have h2 := kOf_2 (setHi q x)
 refine Prod.ext ?_ ?_
 ·rw [h1, kOf_1 q]; rfl
 ·rw [h2, kOf_2 x]; rfl
theorem setHi_can {q x : Span} (hq : canS q) (hx : canS x) : canS (setHi q x) := by
 obtain ⟨h1, h2⟩ := hq
 obtain ⟨h3, h4⟩ := hx
 simp only [okS, Bool.and_eq_true] at h1 h3
 exact ⟨by simp only [okS, Bool.and_eq_true]; exact ⟨h1.1, h3.2⟩, h4⟩
def mrgS (acc : List Span) (p : Span) : List Span := match acc.getLast? with
 | none => acc ++ [p]
 | some q => if (kOf p).1 ≤ (kOf q).2 then (if (kOf q).2 < (kOf p).2 then acc.dropLast ++ [setHi q p] else acc) else acc ++ [p]
theorem mrgS_map (acc : List Span) (p : Span) : (mrgS acc p).map kOf = Pc.mrg (acc.map kOf) (kOf p) := by
 unfold mrgS Pc.mrg
 rcases List.eq_nil_or_concat acc with rfl | ⟨a, q, rfl⟩
 ·rfl
 ·simp only [List.concat_eq_append, List.map_append, List.map_cons, List.map_nil, List.getLast?_append, List.getLast?_singleton, Option.some_or, List.dropLast_concat]
  split
  ·split
   ·simp [setHi_k]
   ·simp
  ·simp
theorem foldS_map : ∀ (s acc : List Span), (s.foldl mrgS acc).map kOf = (s.map kOf).foldl Pc.mrg (acc.map kOf)
 | [], acc => rfl
 | p :: s, acc => by rw [List.foldl_cons, foldS_map s, List.map_cons, List.foldl_cons, mrgS_map]
theorem mrgS_mem {acc : List Span} {p : Span} (ha : ∀ q ∈ acc, canS q) (hp : canS p) : ∀ q ∈ mrgS acc p, canS q := by
 intro r hr
 unfold mrgS at hr
 have happ : r ∈ acc ++ [p] → canS r := fun h => by
  rcases List.mem_append.1 h with h | h
  ·exact ha r h
  ·rw [List.mem_singleton.1 h]; exact hp
 split at hr
 ·exact happ hr
 ·rename_i q hq
  have hqa := ha q (List.mem_of_getLast? hq)
  split at hr
  ·split at hr
   ·rcases List.mem_append.1 hr with h | h
    ·exact ha r (List.dropLast_subset _ h)
    ·rw [List.mem_singleton.1 h]; exact setHi_can hqa hp
   ·exact ha r hr
  ·exact happ hr
theorem foldS_mem : ∀ (s acc : List Span), (∀ q ∈ acc, canS q) → (∀ q ∈ s, canS q) → ∀ q ∈ s.foldl mrgS acc, canS q
 | [], acc, ha, _ => ha
 | p :: s, acc, ha, hs => foldS_mem s _ (mrgS_mem ha (hs p (by simp))) fun q hq => hs q (by simp [hq])
theorem pt_nlt {a b : Pt} (h : a ≤ b) : ¬ b < a := by grind
theorem pt_lt_of {a b : Pt} (h : ¬ a ≤ b) : b < a := by grind
theorem merge_is (s : List Span) (hs : ∀ t ∈ s, canS t) (hl : s.length ≤ big) : loop B36_2 (Int.ofNat 0, s, [], ()) = some (s.foldl mrgS [], ()) := by
 have hbig : big = 1099511627776 := rfl
 have := loop_fold (B := B36_2) s (fun i (b : List Span) => ((i : Int), s, b, ())) mrgS (fun b => (b, ())) [] (fun i b => b.length ≤ i ∧ ∀ q ∈ b, canS q) ⟨Nat.le_refl _, by simp⟩
  (fun i h b ⟨hb, hq⟩ => by
   have hx := hs _ (List.getElem_mem h)
   have hmm := mrgS_mem hq hx
   have hat : s[Int.toNat (i : Int)]? = some s[i] := at_in h
   generalize hxe : s[i] = x at *
   have hw := wrap_next h (by omega)
   have hone := fun z : R7 => one_le (b := b) (N := 1599289640401) z (by omega)
   have e0 : decide ((i : Int) < Int.ofNat s.length) = true := lt_in h
   rcases List.eq_nil_or_concat b with rfl | ⟨a, q, rfl⟩
   ·rw [B36_2_eq]
    have : decide (IntKind.wrap IntKind.i64 (Int.ofNat ([] : List Span).length - Int.ofNat 1) < Int.ofNat 0) = true := rfl
    simp only [e0, cond_true, this, ge_zero, hat, Option.bind_some, hw, hone]
    exact ⟨rfl, by simp [mrgS], hmm⟩
   ·simp only [List.concat_eq_append] at *
    have hqa := hq q (by simp)
    have hlen : (a ++ [q]).length = a.length + 1 := by simp
    have hwl := wrap_len (n := (a ++ [q]).length) (by omega)
    have e1 : (((a ++ [q]).length : Nat) : Int) - 1 = (a.length : Int) := by rw [hlen]; omega
    have e2 : decide ((a.length : Int) < Int.ofNat 0) = false := by simp
    have e3 : ∀ z : Span, decide ((a.length : Int) < Int.ofNat (a ++ [z]).length) = true := fun z => lt_in (by simp)
    have e4 : ∀ z : Span, (a ++ [z])[Int.toNat (a.length : Int)]? = some z := fun z => by simp
    have e5 : ∀ y z : Span, (a ++ [y]).set (Int.toNat (a.length : Int)) z = a ++ [z] := fun y z => set_last a y z
    have hm : mrgS (a ++ [q]) x = if (kOf x).1 ≤ (kOf q).2 then (if (kOf q).2 < (kOf x).2 then a ++ [setHi q x] else a ++ [q]) else a ++ [q] ++ [x] := by
     unfold mrgS; simp
    rw [B36_2_eq]
    simp only [e0, cond_true, hwl, e1, e2, cond_false, e3, ge_zero, Bool.and_self, e4, hat, Option.bind_some]
    rw [F60_is q x hqa.1 hx.1]
    simp only [Option.bind_some]
    rw [hm] at hmm ⊢
    by_cases c1 : (kOf x).1 ≤ (kOf q).2
    ·rw [if_pos c1] at hmm ⊢
     rw [decide_eq_false (pt_nlt c1)]
     simp only [cond_false]
     rw [F61_is x q hx.1 hqa.1]
     simp only [Option.bind_some]
     by_cases c2 : (kOf q).2 < (kOf x).2
     ·rw [if_pos c2] at hmm ⊢
      rw [decide_eq_true c2]
      simp only [cond_true, e5, e3, Bool.and_self, e4, Option.bind_some, hw]
      exact ⟨rfl, by simp at hb ⊢; omega, hmm⟩
     ·rw [if_neg c2] at hmm ⊢
      rw [decide_eq_false c2]
      simp only [cond_false, hw]
      exact ⟨trivial, by omega, hmm⟩
    ·rw [if_neg c1] at hmm ⊢
     rw [decide_eq_true (pt_lt_of c1)]
     simp only [cond_true, hone, hw]
     exact ⟨trivial, by simp at hb ⊢; omega, hmm⟩)
  (fun b ⟨hb, _⟩ => by
   rw [B36_2_eq]
   simp only [lt_out, cond_false])
 exact this
theorem F36_is (l : List Span) (hok : ∀ s ∈ l, okS s = true) (hl : l.length < big) : F36 (l, ()) = some ((Pc.nf (l.map kOf)).map spanP, ()) := by
 obtain ⟨s, h1, h2, h3, h4, h5⟩ := sort_is l hok hl
 rw [F36_eq, h1, Option.bind_some, merge_is s h2 (by omega), Option.bind_some]
 have h6 := foldS_mem s [] (by simp) h2
 have h7 : (s.foldl mrgS []).map kOf = Pc.nf (l.map kOf) := by
  rw [foldS_map]
  exact Pc.sorted_nf h4 h5
 have h8 : s.foldl mrgS [] = (Pc.nf (l.map kOf)).map spanP := by
  rw [← h7, List.map_map]
  conv => lhs; rw [← List.map_id (s.foldl mrgS [])]
  exact List.map_congr_left fun t ht => (spanP_kOf (h6 t ht)).symm
 rw [h8]
end Go.Vx.Z
/-! What spans say; Or, Not, And, Has of the program and of the document say the same. -/
namespace Go.Vx.Z
open Go Go.Vx
set_option linter.unusedVariables false
theorem good_k {p : Piece} (h : good p) : canS (spanOf p) ∧ kOf (spanOf p) = p.pp := by
 obtain ⟨⟨h0, h1⟩, h2⟩ := h
 obtain ⟨a, b, c, d, fb, fe, a', b', c', d', tb, te, u⟩ := p
 simp only [Piece.te, Piece.tv, Piece.tb] at h1
 simp only [Piece.fe] at h2
 subst h2
 refine ⟨⟨h0, h1⟩, ?_⟩
 cases te with
 | true =>
  obtain ⟨h3, h4⟩ := h1 rfl
  simp only [v0, Prod.mk.injEq] at h3
  obtain ⟨rfl, rfl, rfl, rfl, _⟩ := h3
  subst h4
  rfl
 | false => rfl
def IsK (p : Pt × Pt) : Prop := ∃ s, canS s ∧ kOf s = p
theorem isK {p : Pt × Pt} (h : IsK p) : canS (spanP p) ∧ kOf (spanP p) = p := by
 obtain ⟨s, h1, rfl⟩ := h
 rw [spanP_kOf h1]
 exact ⟨h1, rfl⟩
theorem nf_isK (l : List Piece) (hp : ∀ p ∈ l, okP p) : ∀ q ∈ Pc.nf (l.map Piece.pp), IsK q := by
 have hperm : ((l.filter full).mergeSort fun p q => decide (p.fp ≤ q.fp)).Perm (l.filter full) := List.mergeSort_perm _ _
 have hsort := List.pairwise_mergeSort (le := fun p q : Piece => decide (p.fp ≤ q.fp)) (fun a b c h1 h2 => by simp only [decide_eq_true_eq] at *; grind) (fun a b => by simp only [Bool.or_eq_true, decide_eq_true_eq]; grind) (l.filter full)
 generalize ((l.filter full).mergeSort fun p q => decide (p.fp ≤ q.fp)) = s at *
 have hgood := fold_mem s [] (by simp) fun p h => by
  have := List.mem_filter.1 (hperm.mem_iff.1 h)
  exact full_good (hp p this.1) this.2
 have hnf : (s.foldl mrgD []).map Piece.pp = Pc.nf (l.map Piece.pp) := by
  rw [fold_map]
  refine Pc.sorted_nf ?_ ?_
  ·rw [List.filter_map]
   have : (Pc.full ∘ Piece.pp : Piece → Bool) = full := by
    funext p
    show decide (p.fp < p.tp) = !(!decide (p.fp < p.tp))
    rw [Bool.not_not]
   rw [this]
   exact hperm.map _
  ·rw [List.pairwise_map]
   exact hsort.imp fun {a b} h => by
    show a.fp ≤ b.fp
    simpa using h
 intro q hq
 rw [← hnf] at hq
 obtain ⟨p, h1, rfl⟩ := List.mem_map.1 hq
 obtain ⟨h2, h3⟩ := good_k (hgood p h1)
 exact ⟨_, h2, h3⟩
theorem mrg_len (acc : List (Pt × Pt)) (p : Pt × Pt) : (Pc.mrg acc p).length ≤ acc.length + 1 := by
 unfold Pc.mrg
 split
 ·simp
 ·split
  ·split
   ·cases acc with
    | nil => simp
    | cons x l => simp
   ·omega
  ·simp
theorem mrgs_len : ∀ (s acc : List (Pt × Pt)), (s.foldl Pc.mrg acc).length ≤ acc.length + s.length
 | [], acc => by simp
 | p :: s, acc => by
  rw [List.foldl_cons]
  have h1 := mrgs_len s (Pc.mrg acc p)
  have h2 := mrg_len acc p
  simp only [List.length_cons]
  omega
theorem nf_len (l : List (Pt × Pt)) : (Pc.nf l).length ≤ l.length := by
 unfold Pc.nf
 have h1 := mrgs_len ((l.filter Pc.full).mergeSort fun p q => decide (p.1 ≤ q.1)) []
 have h2 : ((l.filter Pc.full).mergeSort fun p q => decide (p.1 ≤ q.1)).length = (l.filter Pc.full).length := (List.mergeSort_perm _ _).length_eq
 have h3 : (l.filter Pc.full).length ≤ l.length := List.length_filter_le _ _
 simp only [List.length_nil] at h1
 omega
def den (L : List Span) (x : Pt) : Prop := Pc.mem (L.map kOf) x
def Nrm (L : List Span) : Prop := Pc.Nm (L.map kOf) ∧ ∀ s ∈ L, canS s
theorem nrm_of {X : List (Pt × Pt)} (h : Pc.Nm X) (hk : ∀ p ∈ X, IsK p) : Nrm (X.map spanP) ∧ (X.map spanP).map kOf = X := by
 have h1 : (X.map spanP).map kOf = X := by
  rw [List.map_map]
  conv => rhs; rw [← List.map_id X]
  exact List.map_congr_left fun p hp => (isK (hk p hp)).2
 refine ⟨⟨by rw [h1]; exact h, fun s hs => ?_⟩, h1⟩
 obtain ⟨p, hp, rfl⟩ := List.mem_map.1 hs
 exact (isK (hk p hp)).1
theorem nrm_eq {L : List Span} (h : Nrm L) : (L.map kOf).map spanP = L := by
 rw [List.map_map]
 conv => rhs; rw [← List.map_id L]
 exact List.map_congr_left fun s hs => spanP_kOf (h.2 s hs)
theorem nrm_uniq {L M : List Span} (h : Nrm L) (k : Nrm M) (e : ∀ x, den L x ↔ den M x) : L = M := by
 rw [← nrm_eq h, ← nrm_eq k, Pc.uniq h.1 k.1 e]
theorem nrm_ok {L : List Span} (h : Nrm L) : ∀ s ∈ L, okS s = true := fun s hs => (h.2 s hs).1
theorem nf_says (l : List Piece) (hp : ∀ p ∈ l, okP p) : Nrm ((Pc.nf (l.map Piece.pp)).map spanP) ∧ (∀ x, den ((Pc.nf (l.map Piece.pp)).map spanP) x ↔ Pc.mem (l.map Piece.pp) x) ∧ ((Pc.nf (l.map Piece.pp)).map spanP).length ≤ l.length := by
 obtain ⟨h1, h2⟩ := Pc.nf_ok (l.map Piece.pp)
 obtain ⟨h3, h4⟩ := nrm_of h1 (nf_isK l hp)
 refine ⟨h3, fun x => ?_, ?_⟩
 ·unfold den
  rw [h4, h2]
 ·have := nf_len (l.map Piece.pp)
  rw [List.length_map] at this ⊢
  exact this
theorem kOf_says (l : List Span) (hok : ∀ s ∈ l, okS s = true) : Nrm ((Pc.nf (l.map kOf)).map spanP) ∧ (∀ x, den ((Pc.nf (l.map kOf)).map spanP) x ↔ den l x) ∧ ((Pc.nf (l.map kOf)).map spanP).length ≤ l.length := by
 have := nf_says (l.map pieceOf) fun p hp => by obtain ⟨s, h1, rfl⟩ := List.mem_map.1 hp; exact pieceOf_ok (hok s h1)
 rw [map_pp, List.length_map (f := pieceOf)] at this
 exact this
theorem den_append (a b : List Span) (x : Pt) : den (a ++ b) x ↔ den a x ∨ den b x := by
 unfold den
 rw [List.map_append, Pc.mem_append]
theorem den_nil (x : Pt) : ¬ den [] x := Pc.mem_nil x
/-! Or -/
theorem or_says (ls : List (List Span)) (hok : ∀ s ∈ ls.flatten, okS s = true) (h : ls.flatten.length ≤ big) (hl : ls.length ≤ big) : ∃ R, F17 (ls, ()) = some (R, ()) ∧ Nrm R ∧ (∀ x, den R x ↔ den ls.flatten x) ∧ R.length ≤ ls.flatten.length := by
 obtain ⟨h1, h2, h3⟩ := kOf_says ls.flatten hok
 exact ⟨_, F17_is ls hok h hl, h1, h2, h3⟩
theorem norm_says (l : List Span) (hok : ∀ s ∈ l, okS s = true) (h : l.length < big) : ∃ R, F36 (l, ()) = some (R, ()) ∧ Nrm R ∧ (∀ x, den R x ↔ den l x) ∧ R.length ≤ l.length := by
 obtain ⟨h1, h2, h3⟩ := kOf_says l hok
 exact ⟨_, F36_is l hok h, h1, h2, h3⟩
theorem ror_says (a b : List Span) (ha : ∀ s ∈ a, okS s = true) (hb : ∀ s ∈ b, okS s = true) (h : a.length + b.length < big) : ∃ R, F21 (a, b, ()) = some (R, ()) ∧ Nrm R ∧ (∀ x, den R x ↔ den a x ∨ den b x) ∧ R.length ≤ a.length + b.length := by
 have hbig : big = 1099511627776 := rfl
 obtain ⟨R, h1, h2, h3, h4⟩ := norm_says (a ++ b) (fun s hs => by
  rcases List.mem_append.1 hs with h | h
  ·exact ha s h
  ·exact hb s h) (by simpa using h)
 refine ⟨R, ?_, h2, fun x => by rw [h3, den_append], by simpa using h4⟩
 rw [F21_eq]
 have e1 : decide (0 + a.length ≤ 1599289640401) = true := decide_eq_true (by omega)
 have e2 : decide ((([] : List Span) ++ a).length + b.length ≤ 1599289640401) = true := decide_eq_true (by rw [List.nil_append]; omega)
 rw [e1, e2, List.nil_append]
 simp only [cond_true, h1, Option.bind_some]
/-! Not -/
def Rng (L : List Span) : Prop := ∀ s ∈ L, pBeg ≤ (kOf s).1
theorem le_end (s : Span) : (kOf s).2 ≤ pEnd := by
 rw [kOf_2]
 split
 ·grind
 ·have := lt_end s.hi s.isIn; grind
theorem rng_in {L : List Span} (h : Rng L) : ∀ p ∈ L.map kOf, pBeg ≤ p.1 ∧ p.2 ≤ pEnd := by
 intro p hp
 obtain ⟨s, h1, rfl⟩ := List.mem_map.1 hp
 exact ⟨h s h1, le_end s⟩
theorem rng_den {L : List Span} (h : Rng L) {x : Pt} (hx : den L x) : pBeg ≤ x ∧ x < pEnd := by
 obtain ⟨p, h1, h2, h3⟩ := hx
 obtain ⟨h4, h5⟩ := rng_in h p h1
 grind
theorem den_rng {L : List Span} (hn : Nrm L) (h : ∀ x, den L x → pBeg ≤ x) : Rng L := by
 intro s hs
 have hm : kOf s ∈ L.map kOf := List.mem_map.2 ⟨s, hs, rfl⟩
 have h2 := hn.1.2 _ hm
 exact h _ ⟨_, hm, by grind, h2⟩
theorem gaps_says (l : List Span) (hn : Nrm l) (hr : Rng l) : Nrm ((Pc.nf (Pc.gaps pBeg (l.map kOf) pEnd)).map spanP) ∧ (∀ x, den ((Pc.nf (Pc.gaps pBeg (l.map kOf) pEnd)).map spanP) x ↔ pBeg ≤ x ∧ x < pEnd ∧ ¬ den l x) ∧ ((Pc.nf (Pc.gaps pBeg (l.map kOf) pEnd)).map spanP).length ≤ l.length + 1 := by
 have h1 := nf_says (gapsD (least, false, false) (l.map pieceOf)) (gapsD_ok _ _ rfl fun p hp => by
  obtain ⟨s, h5, rfl⟩ := List.mem_map.1 hp
  exact ⟨(pieceOf_ok (nrm_ok hn s h5)).1, pieceOf_fe s⟩)
 rw [gapsD_pp, map_pp, gapsD_len, List.length_map (f := pieceOf)] at h1
 refine ⟨h1.1, fun x => ?_, h1.2.2⟩
 exact (h1.2.1 x).trans (Pc.mem_gaps hn.1 (rng_in hr) x)
/-! And -/
theorem and_says (a b : List Span) (ha : Nrm a) (hb : Nrm b) (hl : a.length ≤ 1000000) (hl2 : b.length ≤ 1000000) : ∃ R, F16 (a, b, ()) = some (R, ()) ∧ Nrm R ∧ (∀ x, den R x ↔ den a x ∧ den b x) ∧ R.length ≤ a.length * b.length := by
 refine ⟨_, F16_is a b (nrm_ok ha) (nrm_ok hb) hl hl2, ?_⟩
 have h := nf_says ((a.map pieceOf).flatMap fun p => (b.map pieceOf).map (meetD p)) (fun p hp => by
  obtain ⟨x, hx, hp⟩ := List.mem_flatMap.1 hp
  obtain ⟨y, hy, rfl⟩ := List.mem_map.1 hp
  obtain ⟨s, hs, rfl⟩ := List.mem_map.1 hx
  obtain ⟨t, ht, rfl⟩ := List.mem_map.1 hy
  exact meetD_ok (pieceOf_ok (nrm_ok ha s hs)) (pieceOf_ok (nrm_ok hb t ht)))
 have e : ((a.map pieceOf).flatMap fun p => (b.map pieceOf).map (meetD p)).map Piece.pp = Pc.meets (a.map kOf) (b.map kOf) := by
  unfold Pc.meets
  rw [← map_pp a, ← map_pp b, List.map_flatMap, List.flatMap_map]
  generalize List.map pieceOf b = B
  have hq : ∀ p : Piece, List.map Piece.pp (List.map (meetD p) B) = List.map (Pc.meet p.pp) (List.map Piece.pp B) := fun p => by
   rw [List.map_map, List.map_map]
   exact List.map_congr_left fun q _ => meetD_pp p q
  simp only [hq]
  rw [List.map_map, List.flatMap_map]
  rfl
 have hlen : ((a.map pieceOf).flatMap fun p => (b.map pieceOf).map (meetD p)).length = a.length * b.length := by
  clear h e hl ha
  induction a with
  | nil => simp
  | cons p l ih =>
   rw [List.map_cons, List.flatMap_cons, List.length_append, ih, List.length_map, List.length_map, List.length_cons, Nat.add_mul, Nat.one_mul]
   exact Nat.add_comm _ _
 rw [e, hlen] at h
 exact ⟨h.1, fun x => by rw [h.2.1]; exact Pc.mem_meets, h.2.2⟩
end Go.Vx.Z
/-! The document's Not, And, Has; spans held against one another. -/
namespace Go.Vx.Z
open Go Go.Vx
set_option linter.unusedVariables false
set_option maxRecDepth 100000
def gS : Ver × Bool → List Span → List Span
 | a, [] => [(a.1.1, a.1.2.1, a.1.2.2.1, a.1.2.2.2.1, Int.ofNat 0, Int.ofNat 0, Int.ofNat 0, (lit []), a.2, false, true, ())]
 | a, s :: l => (a.1.1, a.1.2.1, a.1.2.2.1, a.1.2.2.2.1, s.1, s.2.1, s.2.2.1, s.2.2.2.1, a.2, s.2.2.2.2.2.2.2.2.1, false, ()) :: (bif s.2.2.2.2.2.2.2.2.2.2.1 then [] else gS (s.hi, s.isIn) l)
theorem gS_ok : ∀ (l : List Span) (a : Ver × Bool), okV a.1 = true → (∀ s ∈ l, okS s = true) → ∀ q ∈ gS a l, okS q = true
 | [], a, ha, _, q, hq => by
  rw [List.mem_singleton.1 hq]
  simp only [okS, Bool.and_eq_true]
  exact ⟨ha, rfl⟩
 | s :: l, a, ha, hl, q, hq => by
  have hs := hl s (by simp)
  simp only [okS, Bool.and_eq_true] at hs
  rcases List.mem_cons.1 hq with rfl | hq
  ·simp only [okS, Bool.and_eq_true]
   exact ⟨ha, hs.1⟩
  ·cases hop : s.2.2.2.2.2.2.2.2.2.2.1 with
   | true => rw [hop] at hq; cases hq
   | false =>
    rw [hop] at hq
    exact gS_ok l _ hs.2 (fun t ht => hl t (by simp [ht])) q hq
theorem gS_len : ∀ (l : List Span) (a : Ver × Bool), (gS a l).length ≤ l.length + 1
 | [], a => Nat.le_refl _
 | s :: l, a => by
  have := gS_len l (s.hi, s.isIn)
  unfold gS
  cases s.2.2.2.2.2.2.2.2.2.2.1 <;> simp <;> omega
theorem gS_mem : ∀ (l : List Span) (a : Ver × Bool), Pc.Nm (l.map kOf) → ∀ x, Pc.mem ((gS a l).map kOf) x ↔ Pc.mem (Pc.gaps (ptOf a.1 a.2 false) (l.map kOf) pEnd) x
 | [], a, _, x => Iff.rfl
 | s :: l, a, hn, x => by
  rw [List.map_cons] at hn
  obtain ⟨h1, h2, h3⟩ := Pc.nm_cons.1 hn
  have e2 := kOf_2 s
  unfold gS
  cases hop : s.2.2.2.2.2.2.2.2.2.2.1 with
  | true =>
   rw [show s.op = true from hop, if_pos rfl] at e2
   have hl : l = [] := by
    cases l with
    | nil => rfl
    | cons t l =>
     have := h2 (kOf t) (by simp)
     rw [e2, kOf_1] at this
     exact absurd this (end_lt _ _)
   subst hl
   simp only [cond_true, List.map_cons, List.map_nil, Pc.gaps, Pc.mem_cons, e2, kOf_1 s]
   have hn := Pc.mem_nil x
   constructor
   ·rintro (h | h)
    ·exact .inl h
    ·exact absurd h hn
   ·rintro (h | h | h)
    ·exact .inl h
    ·exact absurd h.2 (pt_nlt h.1)
    ·exact absurd h hn
  | false =>
   rw [show s.op = false from hop, if_neg (by simp)] at e2
   simp only [cond_false, List.map_cons, Pc.gaps, Pc.mem_cons]
   rw [gS_mem l _ h3 x, e2, kOf_1 s]
   exact Iff.rfl
noncomputable def finN (r : (List R7 × Unit) ⊕ (List R7 × Int × Int × Int × ByteArray × Int × Int × Int × ByteArray × Bool × Bool × Bool × Unit)) : Option (List R7 × Unit) :=
 Sum.elim (fun p => some (p.1, ())) (fun p => bif decide (List.length p.1 + List.length [(p.2.1, p.2.2.1, p.2.2.2.1, p.2.2.2.2.1, p.2.2.2.2.2.1, p.2.2.2.2.2.2.1, p.2.2.2.2.2.2.2.1, p.2.2.2.2.2.2.2.2.1, p.2.2.2.2.2.2.2.2.2.1, p.2.2.2.2.2.2.2.2.2.2.1, p.2.2.2.2.2.2.2.2.2.2.2.1, ())] ≤ 1599289640401) then Option.bind (F36 (p.1 ++ [(p.2.1, p.2.2.1, p.2.2.2.1, p.2.2.2.2.1, p.2.2.2.2.2.1, p.2.2.2.2.2.2.1, p.2.2.2.2.2.2.2.1, p.2.2.2.2.2.2.2.2.1, p.2.2.2.2.2.2.2.2.2.1, p.2.2.2.2.2.2.2.2.2.2.1, p.2.2.2.2.2.2.2.2.2.2.2.1, ())], ())) fun r => some (r.1, ()) else none) r
theorem B22_is (l : List Span) (hl : l.length < big) (R : List Span) : ∀ (n i : Nat) (a : Ver × Bool) (b : List Span), l.length - i = n → i ≤ l.length → b.length = i → F36 (b ++ gS a (l.drop i), ()) = some (R, ()) →
  ∃ e, loop B22_0 (l, (i : Int), b, a.1.1, a.1.2.1, a.1.2.2.1, a.1.2.2.2.1, Int.ofNat 0, Int.ofNat 0, Int.ofNat 0, (lit []), a.2, false, true, ()) = some e ∧ finN e = some (R, ())
 | 0, i, a, b, hn, hi, hb, hR => by
  obtain rfl : i = l.length := by omega
  rw [List.drop_length] at hR
  refine ⟨_, loop_end (e := .inr (b, a.1.1, a.1.2.1, a.1.2.2.1, a.1.2.2.2.1, Int.ofNat 0, Int.ofNat 0, Int.ofNat 0, (lit []), a.2, false, true, ())) ?_, ?_⟩
  ·rw [B22_0_eq]
   simp only [lt_out, cond_false]
  ·unfold finN
   simp only [Sum.elim_inr, big] at hl ⊢
   rw [one_le (b := b) _ (by omega)]
   simp only [cond_true]
   have hR' : F36 (b ++ [((a.1.1, a.1.2.1, a.1.2.2.1, a.1.2.2.2.1, Int.ofNat 0, Int.ofNat 0, Int.ofNat 0, (lit []), a.2, false, true, ()) : R7)], ()) = some (R, ()) := hR
   rw [hR']
   rfl
 | n + 1, i, a, b, hn, hi, hb, hR => by
  have h : i < l.length := by omega
  have hbig : big = 1099511627776 := rfl
  rw [List.drop_eq_getElem_cons h] at hR
  unfold gS at hR
  have hone := fun z : R7 => one_le (b := b) (N := 1599289640401) z (by omega)
  have hw := wrap_next h (show l.length ≤ _ by omega)
  cases hop : l[i].2.2.2.2.2.2.2.2.2.2.1 with
  | true =>
   rw [hop] at hR
   simp only [cond_true] at hR
   refine ⟨.inl (R, ()), loop_end ?_, rfl⟩
   rw [B22_0_eq]
   simp only [lt_in h, cond_true, ge_zero, at_in h, Option.bind_some, hone, hop]
   have hR' : F36 (b ++ [((a.1.1, a.1.2.1, a.1.2.2.1, a.1.2.2.2.1, l[i].1, l[i].2.1, l[i].2.2.1, l[i].2.2.2.1, a.2, l[i].2.2.2.2.2.2.2.2.1, false, ()) : R7)], ()) = some (R, ()) := hR
   rw [hR']
   rfl
  | false =>
   rw [hop] at hR
   simp only [cond_false] at hR
   obtain ⟨e, h1, h2⟩ := B22_is l hl R n (i + 1) (l[i].hi, l[i].isIn) (b ++ [((a.1.1, a.1.2.1, a.1.2.2.1, a.1.2.2.2.1, l[i].1, l[i].2.1, l[i].2.2.1, l[i].2.2.2.1, a.2, l[i].2.2.2.2.2.2.2.2.1, false, ()) : R7)]) (by omega) h (by simp [hb]) (by rw [List.append_assoc]; exact hR)
   refine ⟨e, loop_step ?_ h1, h2⟩
   rw [B22_0_eq]
   simp only [lt_in h, cond_true, ge_zero, at_in h, Option.bind_some, hone, hop, cond_false, hw]
   rfl
theorem F22_of (l : List Span) (hl : l.length < big) (R : List Span) (hR : F36 (gS (least, false) l, ()) = some (R, ())) : F22 (l, ()) = some (R, ()) := by
 rw [F22_eq, F27_eq, Option.bind_some]
 obtain ⟨e, h1, h2⟩ := B22_is l hl R _ 0 (least, false) [] rfl (Nat.zero_le _) rfl hR
 have h1' : loop B22_0 (l, Int.ofNat 0, [], Int.ofNat 0, Int.ofNat 0, Int.ofNat 0, lit [48], Int.ofNat 0, Int.ofNat 0, Int.ofNat 0, (lit []), false, false, true, ()) = some e := h1
 rw [h1', Option.bind_some]
 exact h2
theorem rnot_says (l : List Span) (hn : Nrm l) (hr : Rng l) (hl : l.length + 1 < big) : ∃ R, F22 (l, ()) = some (R, ()) ∧ Nrm R ∧ Rng R ∧ (∀ x, den R x ↔ pBeg ≤ x ∧ x < pEnd ∧ ¬ den l x) ∧ R.length ≤ l.length + 1 := by
 have hlen := gS_len l (least, false)
 obtain ⟨R, h1, h2, h3, h4⟩ := norm_says (gS (least, false) l) (gS_ok l _ rfl (nrm_ok hn)) (by omega)
 have h5 : ∀ x, den R x ↔ pBeg ≤ x ∧ x < pEnd ∧ ¬ den l x := fun x => by
  rw [h3]
  unfold den
  rw [gS_mem l _ hn.1 x]
  exact Pc.mem_gaps hn.1 (rng_in hr) x
 exact ⟨R, F22_of l (by omega) R h1, h2, den_rng h2 fun x hx => ((h5 x).1 hx).1, h5, by omega⟩
theorem rand_says (a b : List Span) (ha : Nrm a) (hb : Nrm b) (hra : Rng a) (hrb : Rng b) (hl : a.length + b.length + 4 < big) : ∃ R, F20 (a, b, ()) = some (R, ()) ∧ Nrm R ∧ (∀ x, den R x ↔ den a x ∧ den b x) := by
 obtain ⟨na, a1, a2, a3, a4, a5⟩ := rnot_says a ha hra (by omega)
 obtain ⟨nb, b1, b2, b3, b4, b5⟩ := rnot_says b hb hrb (by omega)
 obtain ⟨o, o1, o2, o3, o4⟩ := ror_says na nb (nrm_ok a2) (nrm_ok b2) (by omega)
 obtain ⟨R, r1, r2, r3, r4, r5⟩ := rnot_says o o2 (den_rng o2 fun x hx => by
  rcases (o3 x).1 hx with h | h
  ·exact (rng_den a3 h).1
  ·exact (rng_den b3 h).1) (by omega)
 refine ⟨R, ?_, r2, fun x => ?_⟩
 ·rw [F20_eq, a1, Option.bind_some, b1, Option.bind_some, o1, Option.bind_some, r1]
  rfl
 ·rw [r4, o3, a4, b4]
  constructor
  ·rintro ⟨h1, h2, h3⟩
   refine ⟨Classical.byContradiction fun h => h3 (.inl ⟨h1, h2, h⟩), Classical.byContradiction fun h => h3 (.inr ⟨h1, h2, h⟩)⟩
  ·rintro ⟨h1, h2⟩
   obtain ⟨h3, h4⟩ := rng_den hra h1
   refine ⟨h3, h4, ?_⟩
   rintro (h | h)
   ·exact h.2.2 h1
   ·exact h.2.2 h2
/-! Has -/
/-! Same -/
def eqSp (y z : Span) : Bool := y.1 == z.1 && (y.2.1 == z.2.1 && (y.2.2.1 == z.2.2.1 && bl y.2.2.2.1 == bl z.2.2.2.1)) && (y.2.2.2.2.1 == z.2.2.2.2.1 && (y.2.2.2.2.2.1 == z.2.2.2.2.2.1 && (y.2.2.2.2.2.2.1 == z.2.2.2.2.2.2.1 && bl y.2.2.2.2.2.2.2.1 == bl z.2.2.2.2.2.2.2.1)) && (y.2.2.2.2.2.2.2.2.1 == z.2.2.2.2.2.2.2.2.1 && (y.2.2.2.2.2.2.2.2.2.1 == z.2.2.2.2.2.2.2.2.2.1 && y.2.2.2.2.2.2.2.2.2.2.1 == z.2.2.2.2.2.2.2.2.2.2.1)))
theorem eqSp_iff {y z : Span} : eqSp y z = true ↔ y = z := by
 obtain ⟨a, b, c, d, a', b', c', d', u, v, w, x⟩ := y
 obtain ⟨e, f, g, h, e', f', g', h', i, j, k, m⟩ := z
 simp only [eqSp, Bool.and_eq_true, beq_iff_eq, Prod.mk.injEq]
 constructor
 ·rintro ⟨⟨h1, h2, h3, h4⟩, ⟨h5, h6, h7, h8⟩, h9, h10, h11⟩
  exact ⟨h1, h2, h3, bs_inj h4, h5, h6, h7, bs_inj h8, h9, h10, h11, trivial⟩
 ·rintro ⟨h1, h2, h3, h4, h5, h6, h7, h8, h9, h10, h11, _⟩
  exact ⟨⟨h1, h2, h3, by rw [h4]⟩, ⟨h5, h6, h7, by rw [h8]⟩, h9, h10, h11⟩
open Classical in
theorem F19_is (a b : List Span) (hl : a.length ≤ big) : F19 (a, b, ()) = some (decide (a = b), ()) := by
 have hbig : big = 1099511627776 := rfl
 rw [F19_eq]
 by_cases hlen : a.length = b.length
 ·have e0 : (!Int.ofNat a.length == Int.ofNat b.length) = false := by rw [hlen]; simp
  rw [e0]
  simp only [cond_false]
  have hat : ∀ i (h : i < a.length), i < b.length := fun i h => by omega
  have := loop_find (B := B19_0) (a.zip b) (fun i => (a, b, (i : Int), ())) (fun p => !eqSp p.1 p.2) (fun _ => .inl (false, ())) (.inr ()) (fun i h => by
   have ha : i < a.length := by rw [List.length_zip] at h; omega
   rw [B19_0_eq]
   simp only [lt_in ha, cond_true, ge_zero, at_in ha, at_in (hat i ha), Option.bind_some, wrap_next ha (show a.length ≤ _ by omega), List.getElem_zip]
   show (bif !eqSp a[i] b[i] then _ else _) = _
   cases eqSp a[i] b[i] <;> rfl) (by
   rw [B19_0_eq]
   have : (a.zip b).length = a.length := by rw [List.length_zip]; omega
   rw [this]
   simp only [lt_out, cond_false])
  have h0 : loop B19_0 (a, b, Int.ofNat 0, ()) = _ := this
  rw [h0, Option.bind_some]
  cases hf : (a.zip b).find? (fun p => !eqSp p.1 p.2) with
  | none =>
   have : a = b := by
    apply List.ext_getElem hlen
    intro i h1 h2
    have h3 := List.find?_eq_none.1 hf (a[i], b[i]) (List.mem_iff_getElem.2 ⟨i, by rw [List.length_zip]; omega, by rw [List.getElem_zip]⟩)
    exact eqSp_iff.1 (by simpa using h3)
   rw [decide_eq_true this]; rfl
  | some p =>
   have : ¬ a = b := by
    intro h
    subst h
    have h3 := List.find?_some hf
    have h4 := List.mem_of_find?_eq_some hf
    obtain ⟨i, hi, he⟩ := List.mem_iff_getElem.1 h4
    rw [List.getElem_zip] at he
    subst he
    have h5 : ∀ z : Span, eqSp z z = true := fun z => eqSp_iff.2 rfl
    simp [h5] at h3
   rw [decide_eq_false this]; rfl
 ·have e0 : (!Int.ofNat a.length == Int.ofNat b.length) = true := by
   rw [Bool.not_eq_true', ← Bool.not_eq_true]
   intro h
   exact hlen (Int.ofNat.inj (by simpa using h))
  have : ¬ a = b := fun h => hlen (by rw [h])
  rw [e0, decide_eq_false this]
  rfl
end Go.Vx.Z
/-! Versions, spans that are made of numbers. -/
namespace Go.Vx
open Go
theorem within_eq (x : Int) (n : Nat) (hn : 0 < n) (hm : n ≤ 4611686018427387904) : ∃ k : Nat, k < n ∧ (bif decide (Int.tmod x (n : Int) < Int.ofNat 0) then some (IntKind.wrap IntKind.i64 (Int.tmod x (n : Int) + (n : Int)), ()) else some (Int.tmod x (n : Int), ())) = some ((k : Int), ()) := by
 have h1 : Int.tmod x n < n := Int.tmod_lt_of_pos x (by omega)
 have h2 : -(n : Int) < Int.tmod x n := by
  have := Int.lt_tmod_of_pos x (show (0 : Int) < n by omega)
  exact this
 cases hc : decide (Int.tmod x (n : Int) < Int.ofNat 0) with
 | true =>
  have hc' : Int.tmod x n < 0 := of_decide_eq_true hc
  refine ⟨(Int.tmod x n + n).toNat, by omega, ?_⟩
  rw [cond_true, wrap64 (by omega) (by omega)]
  congr 2
  omega
 | false =>
  have hc' : ¬ Int.tmod x n < 0 := of_decide_eq_false hc
  refine ⟨(Int.tmod x n).toNat, by omega, ?_⟩
  rw [cond_false]
  congr 2
  omega
theorem tmod_nat (k n : Nat) : Int.tmod (k : Int) (Int.ofNat n) = ((k % n : Nat) : Int) := rfl
theorem tdiv_nat (k n : Nat) (h : k < 9223372036854775807) : IntKind.wrap IntKind.i64 (Int.tdiv (k : Int) (Int.ofNat n)) = ((k / n : Nat) : Int) := by
 have : Int.tdiv (k : Int) (Int.ofNat n) = ((k / n : Nat) : Int) := rfl
 rw [this]
 have hle := Nat.div_le_self k n
 generalize k / n = q at *
 exact wrap64 (by omega) (by omega)
def jn : List (List UInt8) → List UInt8
 | [] => []
 | [w] => w
 | w :: v :: l => w ++ 46 :: jn (v :: l)
theorem jn_snoc : ∀ (ws : List (List UInt8)) (w : List UInt8), ws ≠ [] → jn (ws ++ [w]) = jn ws ++ 46 :: w
 | [], w, h => absurd rfl h
 | [v], w, _ => rfl
 | v :: u :: l, w, _ => by
  have := jn_snoc (u :: l) w (by simp)
  rw [List.cons_append, List.cons_append, jn]
  rw [List.cons_append] at this
  rw [this, jn, List.append_assoc]
  rfl
namespace Z
set_option linter.unusedVariables false
set_option maxRecDepth 100000
theorem F54_is (x : Int) (n : Nat) (hn : 0 < n) (hm : n ≤ 4611686018427387904) : ∃ k : Nat, k < n ∧ F54 (x, Int.ofNat n, ()) = some ((k : Int), ()) := by
 rw [F54_eq]
 have : (!decide (Int.ofNat n = Int.ofNat 0)) = true := by simp; omega
 rw [this, cond_true]
 exact within_eq x n hn hm
theorem F29_is (x : Int) (n : Nat) (hn : 0 < n) (hm : n ≤ 4611686018427387904) : ∃ k : Nat, k < n ∧ F29 (x, Int.ofNat n, ()) = some ((k : Int), ()) := by
 rw [F29_eq]
 have : (!decide (Int.ofNat n = Int.ofNat 0)) = true := by simp; omega
 rw [this, cond_true]
 exact within_eq x n hn hm
def preL : List ByteArray := [(lit [48]), (lit [49]), (lit [49, 48]), (lit [50]), (lit [97]), (lit [114, 99]), (lit [114, 99, 49]), (lit [65]), (lit [45]), (lit [48, 97]), (lit [97, 108, 112, 104, 97]), (lit [57, 57, 57, 57, 57, 57, 57, 57, 57, 57]), (lit [50, 48, 50, 48, 48, 49, 48, 49, 48, 48, 48, 48, 48, 48, 45, 97, 98, 99, 100, 101, 102, 48, 49, 50, 51, 52, 53])]
def preW : List (List UInt8) := preL.map bs
def okPre (s : ByteArray) (n : Nat) : Prop := ∃ ws : List (List UInt8), ws.length = n ∧ (∀ w ∈ ws, w ∈ preW) ∧ bs s = jn ws
theorem preW_len : ∀ w ∈ preW, w.length ≤ 27 := by decide
theorem jn_len : ∀ (ws : List (List UInt8)), (∀ w ∈ ws, w.length ≤ 27) → (jn ws).length ≤ 28 * ws.length
 | [], _ => by simp [jn]
 | [w], h => by have := h w (by simp); simp [jn]; omega
 | w :: v :: l, h => by
  have h1 := jn_len (v :: l) fun u hu => h u (by simp [hu])
  have h2 := h w (by simp)
  simp only [jn, List.length_append, List.length_cons] at h1 ⊢
  omega
theorem fits_of {x y : ByteArray} (h : x.size + y.size ≤ 9223372036854775807) : fitsS x y = true := Nat.ble_eq_true_of_le h
theorem okPre_size {s : ByteArray} {n : Nat} (h : okPre s n) : s.size ≤ 28 * n := by
 obtain ⟨ws, h1, h2, h3⟩ := h
 rw [bs_size, h3, ← h1]
 exact jn_len ws fun w hw => preW_len w (h2 w hw)
theorem okPre_step {s y : ByteArray} {n : Nat} (h : okPre s n) (hy : y ∈ preL) : okPre (if n = 0 then s ++ y else s ++ lit [46] ++ y) (n + 1) := by
 obtain ⟨ws, h1, h2, h3⟩ := h
 refine ⟨ws ++ [bs y], by simp [h1], fun w hw => ?_, ?_⟩
 ·rcases List.mem_append.1 hw with h | h
  ·exact h2 w h
  ·rw [List.mem_singleton.1 h]; exact List.mem_map.2 ⟨y, hy, rfl⟩
 ·by_cases hn : n = 0
  ·rw [if_pos hn]
   have : ws = [] := List.eq_nil_of_length_eq_zero (by omega)
   subst this
   rw [bs_append, h3]
   rfl
  ·rw [if_neg hn, jn_snoc _ _ (fun h => hn (by rw [← h1, h]; rfl)), ← h3, bs_append, bs_append, bs_lit, List.append_assoc]
   rfl
theorem B32_is (x2 x3 x4 : Int) (x5 : ByteArray) (x6 x7 x8 : Int) : ∀ (d : Nat) (j i : Nat) (s : ByteArray), 4 - i = d → i ≤ 3 → j < 9223372036854775807 → okPre s i → ∃ s' n, n ≤ 3 ∧ okPre s' n ∧
  loop B32_0 ((j : Int), (i : Int), x2, x3, x4, x5, x6, x7, x8, s, preL, ()) = some (x2, x3, x4, x5, x6, x7, x8, s', ())
 | 0, j, i, s, hd, hi, _, _ => by omega
 | d + 1, j, i, s, hd, hi, hj, hs => by
  by_cases hc : i < j % 4
  ·have h1 : decide ((i : Int) < Int.tmod (j : Int) (Int.ofNat 4)) = true := by rw [tmod_nat]; exact decide_eq_true (by omega)
   have h2 : IntKind.wrap IntKind.i64 (Int.tdiv (j : Int) (Int.ofNat 4)) = ((j / 4 : Nat) : Int) := tdiv_nat j 4 hj
   have h3 : IntKind.wrap IntKind.i64 (Int.tdiv (j : Int) (Int.ofNat 13)) = ((j / 13 : Nat) : Int) := tdiv_nat j 13 hj
   have h4 : Int.tmod ((j / 4 : Nat) : Int) (Int.ofNat 13) = ((j / 4 % 13 : Nat) : Int) := rfl
   have hlt : j / 4 % 13 < preL.length := Nat.mod_lt _ (by decide)
   have hy : preL[j / 4 % 13] ∈ preL := List.getElem_mem _
   have hw : IntKind.wrap IntKind.i64 ((i : Int) + Int.ofNat 1) = ((i + 1 : Nat) : Int) := wrap64s i (by omega)
   have hsz := okPre_size hs
   have hst := okPre_step hs hy
   have hyz : (preL[j / 4 % 13]).size ≤ 27 := by
    have : ∀ y ∈ preL, y.size ≤ 27 := by decide
    exact this _ hy
   generalize hye : preL[j / 4 % 13] = y at *
   have hat : preL[Int.toNat ((j / 4 % 13 : Nat) : Int)]? = some y := by rw [Int.toNat_natCast, List.getElem?_eq_getElem hlt, hye]
   have l46 : (lit [46]).size = 1 := rfl
   have hsa : (s ++ lit [46]).size = s.size + 1 := by rw [ByteArray.size_append]; rfl
   have hdiv : j / 13 ≤ j := Nat.div_le_self _ _
   obtain ⟨s', n, q1, q2, q3⟩ := B32_is x2 x3 x4 x5 x6 x7 x8 d (j / 13) (i + 1) _ (by omega) (by omega) (by omega) hst
   refine ⟨s', n, q1, q2, loop_step ?_ q3⟩
   rw [B32_0_eq]
   by_cases hi0 : i = 0
   ·subst hi0
    have h5 : decide (((0 : Nat) : Int) > Int.ofNat 0) = false := rfl
    simp only [h1, h2, h3, h4, h5, cond_true, cond_false, ge_zero, hat, Option.bind_some, hw, if_true]
    rw [fits_of (by omega)]
    rfl
   ·have h5 : decide ((i : Int) > Int.ofNat 0) = true := decide_eq_true (by show (0 : Int) < i; omega)
    simp only [h1, h2, h3, h4, h5, cond_true, ge_zero, hat, Option.bind_some, hw, if_neg hi0]
    rw [fits_of (by omega), fits_of (by omega)]
    rfl
  ·refine ⟨s, i, hi, hs, loop_end ?_⟩
   have h1 : decide ((i : Int) < Int.tmod (j : Int) (Int.ofNat 4)) = false := by rw [tmod_nat]; exact decide_eq_false (by omega)
   rw [B32_0_eq, h1]
   rfl
def okMk (v : Ver) : Prop := (0 ≤ v.1 ∧ v.1 ≤ 999999) ∧ (0 ≤ v.2.1 ∧ v.2.1 ≤ 999999) ∧ (0 ≤ v.2.2.1 ∧ v.2.2.1 ≤ 999999) ∧ v.2.2.2.1.size ≤ 40 ∧ ∃ n, n ≤ 3 ∧ okPre v.2.2.2.1 n
theorem F32_end (A B C : Int) (hA : 0 ≤ A ∧ A ≤ 999999) (hB : 0 ≤ B ∧ B ≤ 999999) (hC : 0 ≤ C ∧ C ≤ 999999) (m : Int) :
  ∃ v : Ver, (Option.bind (F54 (m, Int.ofNat 1099511627776, ())) fun r_1 => Option.bind (loop B32_0 (r_1.1, Int.ofNat 0, Int.ofNat 0, Int.ofNat 0, Int.ofNat 0, (lit []), A, B, C, (lit []), preL, ())) fun r => bif decide (Int.ofNat (ByteArray.size r.2.2.2.2.2.2.2.1) > Int.ofNat 40) then some (r.2.2.2.2.1, r.2.2.2.2.2.1, r.2.2.2.2.2.2.1, (lit [114, 99, 46, 49]), ()) else some (r.2.2.2.2.1, r.2.2.2.2.2.1, r.2.2.2.2.2.2.1, r.2.2.2.2.2.2.2.1, ())) = some (v.1, v.2.1, v.2.2.1, v.2.2.2.1, ()) ∧ okMk v := by
 obtain ⟨j, hj, h1⟩ := F54_is m 1099511627776 (by decide) (by decide)
 rw [h1, Option.bind_some]
 obtain ⟨s, n, hn, hs, h2⟩ := B32_is (Int.ofNat 0) (Int.ofNat 0) (Int.ofNat 0) (lit []) A B C 4 j 0 (lit []) rfl (by omega) (by omega) ⟨[], rfl, by simp, rfl⟩
 have h2' : loop B32_0 ((j : Int), Int.ofNat 0, Int.ofNat 0, Int.ofNat 0, Int.ofNat 0, lit [], A, B, C, lit [], preL, ()) = _ := h2
 simp only [h2', Option.bind_some]
 by_cases hc : s.size ≤ 40
 ·have : decide (Int.ofNat s.size > Int.ofNat 40) = false := decide_eq_false (by show ¬ (40 : Int) < s.size; omega)
  rw [this, cond_false]
  exact ⟨(A, B, C, s, ()), rfl, hA, hB, hC, hc, n, hn, hs⟩
 ·have : decide (Int.ofNat s.size > Int.ofNat 40) = true := decide_eq_true (by show (40 : Int) < s.size; omega)
  rw [this, cond_true]
  exact ⟨(A, B, C, lit [114, 99, 46, 49], ()), rfl, hA, hB, hC, by show 4 ≤ 40; decide, 2, by decide, [[114, 99], [49]], rfl, by decide, rfl⟩
theorem F32_is (n m : Int) : ∃ v : Ver, F32 (n, m, ()) = some (v.1, v.2.1, v.2.2.1, v.2.2.2.1, ()) ∧ okMk v := by
 obtain ⟨k, hk, h1⟩ := F54_is n 1099511627776 (by decide) (by decide)
 rw [F32_eq, h1, Option.bind_some]
 have d48 : IntKind.wrap IntKind.i64 (Int.tdiv (k : Int) (Int.ofNat 48)) = ((k / 48 : Nat) : Int) := tdiv_nat k 48 (by omega)
 have d432 : IntKind.wrap IntKind.i64 (Int.tdiv (k : Int) (Int.ofNat 432)) = ((k / 432 : Nat) : Int) := tdiv_nat k 432 (by omega)
 have d3 : IntKind.wrap IntKind.i64 (Int.tdiv (k : Int) (Int.ofNat 3)) = ((k / 3 : Nat) : Int) := tdiv_nat k 3 (by omega)
 have d12 : IntKind.wrap IntKind.i64 (Int.tdiv (k : Int) (Int.ofNat 12)) = ((k / 12 : Nat) : Int) := tdiv_nat k 12 (by omega)
 have hbig : IntKind.wrap IntKind.i64 (Int.ofNat 999999 - ((k / 432 % 2 : Nat) : Int)) = 999999 - ((k / 432 % 2 : Nat) : Int) := by
  show IntKind.wrap IntKind.i64 (999999 - ((k / 432 % 2 : Nat) : Int)) = _
  exact wrap64 (by omega) (by omega)
 simp only [d48, d432, d3, d12, tmod_nat, hbig]
 have a3 : 0 ≤ ((k % 3 : Nat) : Int) ∧ ((k % 3 : Nat) : Int) ≤ 999999 := by omega
 have b4 : 0 ≤ ((k / 3 % 4 : Nat) : Int) ∧ ((k / 3 % 4 : Nat) : Int) ≤ 999999 := by omega
 have c4 : 0 ≤ ((k / 12 % 4 : Nat) : Int) ∧ ((k / 12 % 4 : Nat) : Int) ≤ 999999 := by omega
 have g9 : 0 ≤ 999999 - ((k / 432 % 2 : Nat) : Int) ∧ 999999 - ((k / 432 % 2 : Nat) : Int) ≤ 999999 := by omega
 cases ((((k / 48 % 9 : Nat) : Int)) == Int.ofNat 0) with
 | true => exact F32_end _ _ _ g9 b4 c4 m
 | false =>
  cases ((((k / 48 % 9 : Nat) : Int)) == Int.ofNat 1) with
  | true => exact F32_end _ _ _ a3 g9 c4 m
  | false =>
   cases ((((k / 48 % 9 : Nat) : Int)) == Int.ofNat 2) with
   | true => exact F32_end _ _ _ a3 b4 g9 m
   | false => exact F32_end _ _ _ a3 b4 c4 m
end Z
end Go.Vx
/-! Raw spans, Make. -/
namespace Go.Vx.Z
open Go Go.Vx
set_option linter.unusedVariables false
set_option maxRecDepth 100000
theorem cmpW_least (w : List UInt8) : cmpW [48] w ≤ 0 := by
 unfold cmpW
 have h0 : wordKey [48] = (0, 1, [48]) := by decide
 rw [h0]
 unfold wordKey
 by_cases h : allDig w = true
 ·rw [if_pos h]
  have h1 : cmpI 0 0 = 0 := rfl
  simp only [h1, orC, if_true]
  unfold allDig at h
  rw [Bool.and_eq_true] at h
  obtain ⟨h2, h3⟩ := h
  match w, h2, h3 with
  | [], _, h3 => cases h3
  | [c], h2, _ =>
   have h4 : cmpI 1 ((([c] : List UInt8).length : Nat) : Int) = 0 := rfl
   rw [if_pos h4]
   show orC (cmpU 48 c) 0 ≤ 0
   simp only [List.all_cons, List.all_nil, Bool.and_true] at h2
   unfold dig1 at h2
   rw [Bool.and_eq_true, decide_eq_true_eq] at h2
   unfold cmpU cmpI orC
   have h5 : (48 : UInt8).toNat = 48 := rfl
   rw [h5]
   split
   ·omega
   ·split
    ·omega
    ·split
     ·omega
     ·omega
  | c :: d :: l, _, _ =>
   have h4 : cmpI 1 (((c :: d :: l).length : Nat) : Int) = -1 := by
    unfold cmpI
    rw [if_pos (by simp only [List.length_cons]; omega)]
   rw [h4, if_neg (by omega)]
   omega
 ·rw [if_neg h]
  show orC (cmpI 0 1) _ ≤ 0
  rw [show cmpI 0 1 = -1 from rfl]
  unfold orC
  rw [if_neg (by omega)]
  omega
theorem cmpP_least (l : List UInt8) : cmpP [48] l ≤ 0 := by
 unfold cmpP
 have h0 : preKey [48] = (0, [[48]]) := by decide
 rw [h0]
 unfold preKey
 by_cases h : l = []
 ·rw [if_pos h]
  decide
 ·rw [if_neg h]
  have h1 : cmpI 0 0 = 0 := rfl
  simp only [h1, orC, if_true]
  cases hs : splitB 46 l with
  | nil => exact absurd hs (splitB_ne 46 l)
  | cons w ws =>
   have h2 := cmpW_least w
   show orC (cmpW [48] w) (listC cmpW [] ws) ≤ 0
   unfold orC
   split
   ·cases ws with
    | nil => exact Int.le_refl _
    | cons _ _ => show (-1 : Int) ≤ 0; omega
   ·exact h2
theorem cmpI_zero_le {a : Int} (h : 0 ≤ a) : cmpI 0 a ≤ 0 := by
 unfold cmpI
 split
 ·omega
 ·split <;> omega
theorem orC_le {a b : Int} (ha : a ≤ 0) (hb : b ≤ 0) : orC a b ≤ 0 := by unfold orC; split <;> assumption
theorem least_le {v : Ver} (h : 0 ≤ v.1) (h1 : 0 ≤ v.2.1) (h2 : 0 ≤ v.2.2.1) : cmpV least v ≤ 0 := by
 have e : cmpV least v = orC (cmpI 0 v.1) (orC (cmpI 0 v.2.1) (orC (cmpI 0 v.2.2.1) (cmpP [48] (bs v.2.2.2.1)))) := rfl
 rw [e]
 exact orC_le (cmpI_zero_le h) (orC_le (cmpI_zero_le h1) (orC_le (cmpI_zero_le h2) (cmpP_least _)))
theorem pBeg_le {v : Ver} (b : Bool) (h : cmpV least v ≤ 0) : pBeg ≤ ptOf v b false := by
 have := le_pt least v false b
 have h2 : (decide (cmpV least v < 0) || cmpV least v == 0 && (!false || b)) = true := by
  by_cases h3 : cmpV least v < 0
  ·simp [h3]
  ·have : cmpV least v = 0 := by omega
   simp [this]
 rw [h2] at this
 exact of_decide_eq_true this
theorem mrg_ends (acc : List (Pt × Pt)) (p : Pt × Pt) (A B : Pt → Prop) (ha : ∀ q ∈ acc, A q.1 ∧ B q.2) (hp : A p.1 ∧ B p.2) : ∀ q ∈ Pc.mrg acc p, A q.1 ∧ B q.2 := by
 intro r hr
 unfold Pc.mrg at hr
 split at hr
 ·rw [List.mem_singleton.1 hr]; exact hp
 ·rename_i q hq
  have hqa := ha q (List.mem_of_getLast? hq)
  split at hr
  ·split at hr
   ·rcases List.mem_append.1 hr with h | h
    ·exact ha r (List.dropLast_subset _ h)
    ·rw [List.mem_singleton.1 h]; exact ⟨hqa.1, hp.2⟩
   ·exact ha r hr
  ·rcases List.mem_append.1 hr with h | h
   ·exact ha r h
   ·rw [List.mem_singleton.1 h]; exact hp
theorem mrgs_ends (A B : Pt → Prop) : ∀ (s acc : List (Pt × Pt)), (∀ q ∈ acc, A q.1 ∧ B q.2) → (∀ q ∈ s, A q.1 ∧ B q.2) → ∀ q ∈ s.foldl Pc.mrg acc, A q.1 ∧ B q.2
 | [], acc, ha, _ => ha
 | p :: s, acc, ha, hs => mrgs_ends A B s _ (mrg_ends acc p A B ha (hs p (by simp))) fun q hq => hs q (by simp [hq])
theorem nf_ends (A B : Pt → Prop) (l : List (Pt × Pt)) (h : ∀ q ∈ l, A q.1 ∧ B q.2) : ∀ q ∈ Pc.nf l, A q.1 ∧ B q.2 := by
 refine mrgs_ends A B _ [] (by simp) fun q hq => ?_
 have := (List.mergeSort_perm (l.filter Pc.full) fun p q => decide (p.1 ≤ q.1)).mem_iff.1 hq
 exact h q (List.mem_filter.1 this).1
end Go.Vx.Z
namespace Go.Vx.Z
open _root_.Int (ofNat toNat)
open IntKind (wrap)
open _root_.ByteArray (size)
open _root_.List (length)
open _root_.Sum (inl inr elim)
open Go Go.Vx Go.Proofs
set_option linter.unusedVariables false
set_option maxRecDepth 1000000
set_option maxHeartbeats 4000000
theorem B5_0_eq (x0 : Int) (x1 : List ByteArray) : B5_0 (x0, x1, ()) =
 bif decide (x0 < ofNat (length x1)) then bif decide (ofNat 0 ≤ x0) then Option.bind x1[toNat x0]? fun y => Option.bind (F30 (y, ())) fun r => bif decide (ofNat 0 ≤ x0) then Option.bind x1[toNat x0]? fun y => Option.bind (F31 (y, ())) fun r_1 => Option.bind (F19 (r.1, r_1.1, ())) fun r_2 => bif !r_2.1 then some (inr (inl (false, ()))) else bif !r.2.1 == r_1.2.1 then some (inr (inl (false, ()))) else bif !r.2.2.1 == r_1.2.2.1 then some (inr (inl (false, ()))) else some (inl (wrap .i64 (x0 + ofNat 1), x1, ())) else none else none else some (inr (inr ())) := by kernel_rfl
end Go.Vx.Z
/-! SpanLaws -/
namespace Go.Vx.Z
open Go Go.Vx
set_option linter.unusedVariables false
set_option maxRecDepth 100000
theorem len0 {L : List Span} (h : Nrm L) (hd : ∀ x, ¬ den L x) : L = [] := nrm_uniq h ⟨by simp [Pc.Nm], by simp⟩ fun x => ⟨fun h => absurd h (hd x), fun h => absurd h (den_nil x)⟩
theorem or2_says (a b : List Span) (ha : Nrm a) (hb : Nrm b) (hl : a.length + b.length ≤ 1000000) : ∃ R, F17 ([a, b], ()) = some (R, ()) ∧ Nrm R ∧ (∀ x, den R x ↔ den a x ∨ den b x) ∧ R.length ≤ a.length + b.length := by
 have e : [a, b].flatten = a ++ b := by simp
 obtain ⟨R, h1, h2, h3, h4⟩ := or_says [a, b] (fun s hs => by
  rw [e] at hs
  rcases List.mem_append.1 hs with h | h
  ·exact nrm_ok ha s h
  ·exact nrm_ok hb s h) (by rw [e, List.length_append]; simp only [big]; omega) (by show 2 ≤ big; decide)
 rw [e] at h3 h4
 exact ⟨R, h1, h2, fun x => by rw [h3, den_append], by simpa using h4⟩
theorem or_rng {a b R : List Span} (ha : Rng a) (hb : Rng b) (hR : Nrm R) (h : ∀ x, den R x ↔ den a x ∨ den b x) : Rng R := den_rng hR fun x hx => by
 rcases (h x).1 hx with h | h
 ·exact (rng_den ha h).1
 ·exact (rng_den hb h).1
theorem nrm_nil : Nrm [] ∧ Rng [] := ⟨⟨by simp [Pc.Nm], by simp⟩, by simp [Rng]⟩
open Classical in
theorem same_is {a b : List Span} (hl : a.length ≤ 1000000) (h : a = b) : F19 (a, b, ()) = some (true, ()) := by
 rw [F19_is a b (by simp only [big]; omega), decide_eq_true h]
end Go.Vx.Z
/-! SpanOps -/
namespace Go.Vx.Z
open Go Go.Vx
set_option linter.unusedVariables false
set_option maxRecDepth 100000
theorem obs {α β : Type} (x : α) (f : α → Option β) : Option.bind (some x) f = f x := by
 have h : ∀ o : Option α, o = some x → o.bind f = f x := by
  intro o ho
  subst ho
  rfl
 exact h _ rfl
def hv (L : List Span) (p : Ver) : Bool := hasK (L.map kOf) (ptV p)
end Go.Vx.Z
/-! SpanNormed -/
namespace Go.Vx.Z
open Go Go.Vx
set_option linter.unusedVariables false
set_option maxRecDepth 100000
theorem norm_self {L : List Span} (h : Nrm L) (hl : L.length < big) : F36 (L, ()) = some (L, ()) := by
 obtain ⟨R, h1, h2, h3, _⟩ := norm_says L (nrm_ok h) hl
 rw [h1, nrm_uniq h2 h h3]
end Go.Vx.Z
/-! Numbers, versions as texts. -/
namespace Go.Vx
open Go
set_option linter.unusedVariables false
def numB (l : List UInt8) : Nat := l.foldl (fun n c => 10 * n + (c.toNat - 48)) 0
theorem numB_snoc (l : List UInt8) (c : UInt8) : numB (l ++ [c]) = 10 * numB l + (c.toNat - 48) := by simp [numB]
theorem dig_toNat {d : Nat} (h : d < 10) : (UInt8.ofNat (48 + d)).toNat = 48 + d := by
 rw [UInt8.toNat_ofNat']
 omega
theorem dec_small {u : Nat} (h : u < 10) : Lib.decDigits u = [UInt8.ofNat (48 + u)] := by rw [Lib.decDigits, dif_pos h]
theorem dec_big {u : Nat} (h : ¬ u < 10) : Lib.decDigits u = Lib.decDigits (u / 10) ++ [UInt8.ofNat (48 + u % 10)] := by rw [Lib.decDigits, dif_neg h]
theorem dec_all (u : Nat) : ∀ c ∈ Lib.decDigits u, dig1 c = true := by
 induction u using Nat.strongRecOn with
 | _ u ih =>
  have hd : ∀ d, d < 10 → dig1 (UInt8.ofNat (48 + d)) = true := fun d h => by
   unfold dig1
   rw [dig_toNat h]
   simp
   omega
  intro c hc
  by_cases h : u < 10
  ·rw [dec_small h, List.mem_singleton] at hc
   rw [hc]; exact hd u h
  ·rw [dec_big h] at hc
   rcases List.mem_append.1 hc with hc | hc
   ·exact ih (u / 10) (by omega) c hc
   ·rw [List.mem_singleton.1 hc]; exact hd _ (Nat.mod_lt _ (by omega))
theorem dec_num (u : Nat) : numB (Lib.decDigits u) = u := by
 induction u using Nat.strongRecOn with
 | _ u ih =>
  by_cases h : u < 10
  ·rw [dec_small h]
   show 10 * 0 + ((UInt8.ofNat (48 + u)).toNat - 48) = u
   rw [dig_toNat h]; omega
  ·rw [dec_big h, numB_snoc, ih (u / 10) (by omega), dig_toNat (Nat.mod_lt _ (by omega))]
   omega
theorem dec_ne (u : Nat) : Lib.decDigits u ≠ [] := by
 by_cases h : u < 10
 ·rw [dec_small h]; simp
 ·rw [dec_big h]; simp
theorem dec_head (u : Nat) : ∀ c l, Lib.decDigits u = c :: l → l ≠ [] → c ≠ 48 := by
 induction u using Nat.strongRecOn with
 | _ u ih =>
  intro c l hc hl
  by_cases h : u < 10
  ·rw [dec_small h] at hc
   injection hc with _ hc
   exact absurd hc.symm hl
  ·rw [dec_big h] at hc
   cases hd : Lib.decDigits (u / 10) with
   | nil => exact absurd hd (dec_ne _)
   | cons d m =>
    rw [hd] at hc
    injection hc with h1 h2
    subst h1
    by_cases hm : m = []
    ·subst hm
     have h3 : u / 10 < 10 := by
      by_cases h4 : u / 10 < 10
      ·exact h4
      ·rw [dec_big h4] at hd
       have := congrArg List.length hd
       simp only [List.length_append, List.length_cons, List.length_nil] at this
       have h5 := List.length_pos_iff.2 (dec_ne (u / 10 / 10))
       omega
     rw [dec_small h3] at hd
     injection hd with hd _
     intro he
     rw [he] at hd
     have := congrArg UInt8.toNat hd
     rw [dig_toNat h3] at this
     have h6 : (48 : UInt8).toNat = 48 := rfl
     omega
    ·exact ih (u / 10) (by omega) d m hd hm
theorem dec_len {u : Nat} : ∀ k, u < 10 ^ (k + 1) → (Lib.decDigits u).length ≤ k + 1 := by
 intro k
 induction k generalizing u with
 | zero => intro h; rw [dec_small (by omega)]; simp
 | succ k ih =>
  intro h
  by_cases h1 : u < 10
  ·rw [dec_small h1]; simp
  ·rw [dec_big h1, List.length_append]
   have := ih (u := u / 10) (by rw [Nat.pow_succ] at h; omega)
   simp only [List.length_singleton]
   omega
def verT (v : Ver) : List UInt8 := 118 :: (Lib.decDigits v.1.toNat ++ 46 :: (Lib.decDigits v.2.1.toNat ++ 46 :: (Lib.decDigits v.2.2.1.toNat ++ (if bs v.2.2.2.1 = [] then [] else 45 :: bs v.2.2.2.1))))
namespace Z
set_option maxRecDepth 100000
theorem lit_size (l : List UInt8) : (lit l).size = l.length := rfl
theorem FR55_is : ∀ (k u : Nat), u < 10 ^ (k + 1) → u ≤ 999999 → FR55 (k + 1) ((u : Int), ()) = some (lit (Lib.decDigits u), ()) := by
 intro k
 induction k with
 | zero =>
  intro u h hu
  show FX55 (FR55 0) _ = _
  rw [FX55_eq]
  have h1 : decide ((u : Int) ≥ Int.ofNat 10) = false := decide_eq_false (by show ¬ (10 : Int) ≤ u; omega)
  rw [h1, cond_false, dec_small (by omega)]
  have h2 : IntKind.wrap IntKind.u8 (IntKind.wrap IntKind.i64 (Int.ofNat 48 + (u : Int))) = ((48 + u : Nat) : Int) := by
   rw [wrap64 (by show -9223372036854775808 ≤ (48 : Int) + u; omega) (by show (48 : Int) + u ≤ _; omega), wrap8 (by show 0 ≤ (48 : Int) + u; omega) (by show (48 : Int) + u ≤ 255; omega)]
   rfl
  rw [h2]
  rfl
 | succ k ih =>
  intro u h hu
  show FX55 (FR55 (k + 1)) _ = _
  rw [FX55_eq]
  by_cases hc : u < 10
  ·have h1 : decide ((u : Int) ≥ Int.ofNat 10) = false := decide_eq_false (by show ¬ (10 : Int) ≤ u; omega)
   rw [h1, cond_false, dec_small hc]
   have h2 : IntKind.wrap IntKind.u8 (IntKind.wrap IntKind.i64 (Int.ofNat 48 + (u : Int))) = ((48 + u : Nat) : Int) := by
    rw [wrap64 (by show -9223372036854775808 ≤ (48 : Int) + u; omega) (by show (48 : Int) + u ≤ _; omega), wrap8 (by show 0 ≤ (48 : Int) + u; omega) (by show (48 : Int) + u ≤ 255; omega)]
    rfl
   rw [h2]
   rfl
  ·have h1 : decide ((u : Int) ≥ Int.ofNat 10) = true := decide_eq_true (by show (10 : Int) ≤ u; omega)
   have h2 : IntKind.wrap IntKind.i64 (Int.tdiv (u : Int) (Int.ofNat 10)) = ((u / 10 : Nat) : Int) := tdiv_nat u 10 (by omega)
   have h3 : Int.tmod (u : Int) (Int.ofNat 10) = ((u % 10 : Nat) : Int) := rfl
   have hm : u % 10 < 10 := Nat.mod_lt _ (by omega)
   have h4 := ih (u / 10) (by rw [Nat.pow_succ] at h; omega) (by omega)
   have h5 := ih (u % 10) (Nat.lt_of_lt_of_le hm (by rw [Nat.pow_succ]; exact Nat.le_mul_of_pos_left _ (Nat.pow_pos (by omega)))) (by omega)
   have l1 := dec_len (u := u / 10) 5 (by omega)
   have l2 := dec_len (u := u % 10) 0 (by omega)
   rw [h1, cond_true, h2, h3]
   erw [h4]
   rw [obs]
   erw [h5]
   rw [obs, fits_of (by rw [lit_size, lit_size]; omega), cond_true]
   refine congrArg (fun z => some (z, ())) (bs_inj ?_)
   rw [bs_append, bs_lit, bs_lit, bs_lit, dec_small hm, dec_big hc]
theorem F55_is (u : Nat) (h : u ≤ 999999) : F55 ((u : Int), ()) = some (lit (Lib.decDigits u), ()) := FR55_is 29 u (Nat.lt_of_le_of_lt h (by decide)) h
def okN (v : Ver) : Prop := (0 ≤ v.1 ∧ v.1 ≤ 999999) ∧ (0 ≤ v.2.1 ∧ v.2.1 ≤ 999999) ∧ (0 ≤ v.2.2.1 ∧ v.2.2.1 ≤ 999999) ∧ v.2.2.2.1.size ≤ 40
theorem okMk_N {v : Ver} (h : okMk v) : okN v := ⟨h.1, h.2.1, h.2.2.1, h.2.2.2.1⟩
theorem nil_bs (s : ByteArray) : (bl s == []) = decide (bs s = []) := by
 show (bs s == []) = _
 cases bs s <;> rfl
theorem verT_len {v : Ver} (h : okN v) : (verT v).length ≤ 62 := by
 obtain ⟨h1, h2, h3, h4⟩ := h
 have l1 := dec_len (u := v.1.toNat) 5 (by omega)
 have l2 := dec_len (u := v.2.1.toNat) 5 (by omega)
 have l3 := dec_len (u := v.2.2.1.toNat) 5 (by omega)
 rw [bs_size] at h4
 unfold verT
 split <;> simp only [List.length_cons, List.length_append, List.length_nil] <;> omega
theorem F33_is (v : Ver) (h : okN v) : F33 (v.1, v.2.1, v.2.2.1, v.2.2.2.1, ()) = some (lit (verT v), ()) := by
 obtain ⟨h1, h2, h3, h4⟩ := h
 obtain ⟨A, B, C, s, u⟩ := v
 simp only at h1 h2 h3 h4
 obtain ⟨a, rfl⟩ := Int.eq_ofNat_of_zero_le h1.1
 obtain ⟨b, rfl⟩ := Int.eq_ofNat_of_zero_le h2.1
 obtain ⟨c, rfl⟩ := Int.eq_ofNat_of_zero_le h3.1
 have l1 := dec_len (u := a) 5 (by omega)
 have l2 := dec_len (u := b) 5 (by omega)
 have l3 := dec_len (u := c) 5 (by omega)
 simp only
 rw [F33_eq]
 have e1 := F55_is a (by omega)
 have e2 := F55_is b (by omega)
 have e3 := F55_is c (by omega)
 generalize hA : Lib.decDigits a = DA at *
 generalize hB : Lib.decDigits b = DB at *
 generalize hC : Lib.decDigits c = DC at *
 have fit : ∀ x y : ByteArray, x.size ≤ 1000 → y.size ≤ 1000 → fitsS x y = true := fun x y hx hy => fits_of (by omega)
 simp only [e1, e2, e3, obs]
 rw [fit _ _ (by simp [lit_size]) (by rw [lit_size]; omega), cond_true, fit _ _ (by simp [ByteArray.size_append, lit_size]; omega) (by simp [lit_size]), cond_true, fit _ _ (by simp [ByteArray.size_append, lit_size]; omega) (by rw [lit_size]; omega), cond_true, fit _ _ (by simp [ByteArray.size_append, lit_size]; omega) (by simp [lit_size]), cond_true,
  fit _ _ (by simp [ByteArray.size_append, lit_size]; omega) (by rw [lit_size]; omega), cond_true, nil_bs]
 by_cases hs : bs s = []
 ·rw [decide_eq_true hs]
  simp only [cond_true]
  refine congrArg (fun z => some (z, ())) (bs_inj ?_)
  simp only [bs_append, bs_lit, verT, if_pos hs, Int.toNat_natCast, hA, hB, hC]
  simp
 ·rw [decide_eq_false hs]
  simp only [cond_false]
  rw [fit _ _ (by simp [ByteArray.size_append, lit_size]; omega) (by simp [lit_size]), cond_true, fit _ _ (by simp [ByteArray.size_append, lit_size]; omega) (by omega), cond_true]
  refine congrArg (fun z => some (z, ())) (bs_inj ?_)
  simp only [bs_append, bs_lit, verT, if_neg hs, Int.toNat_natCast, hA, hB, hC]
  simp
end Z
end Go.Vx
/-! strings.Join at " || ", spans as texts. -/
namespace Go.Vx
open Go
set_option linter.unusedVariables false
def ib (l : List UInt8) : List Int := l.map fun b => Int.ofNat b.1.1.1
theorem ib_ok (l : List UInt8) : okBytes (ib l) = true := by
 unfold okBytes
 rw [List.all_eq_true]
 intro n hn
 obtain ⟨b, _, rfl⟩ := List.mem_map.1 hn
 unfold isByte
 rw [Bool.and_eq_true, decide_eq_true_eq, decide_eq_true_eq]
 have := b.toNat_lt
 exact ⟨Int.natCast_nonneg _, by show ((b.toNat : Nat) : Int) ≤ 255; omega⟩
theorem bstr_ib (l : List UInt8) : bstr (ib l) = lit l := by
 have key : ∀ (l : List UInt8) (r : ByteArray), (ib l).foldl (fun r n => r.push (UInt8.ofNat n.toNat)) r = ⟨r.data ++ l.toArray⟩ := by
  intro l
  induction l with
  | nil => intro r; simp [ib]
  | cons b l ih =>
   intro r
   have h : ib (b :: l) = Int.ofNat b.1.1.1 :: ib l := rfl
   have h2 : UInt8.ofNat (Int.ofNat b.1.1.1).toNat = b := by
    show UInt8.ofNat b.toNat = b
    exact UInt8.ofNat_toNat
   rw [h, List.foldl_cons, ih, h2]
   simp [ByteArray.push]
 unfold bstr
 rw [key]
 apply bs_inj
 show (ByteArray.empty.data ++ l.toArray).toList = l
 rw [Array.toList_append]
 rfl
namespace Z
set_option maxRecDepth 100000
abbrev sep : ByteArray := lit [32, 124, 124, 32]
end Z
end Go.Vx
/-! SpanTexts: unlike spans are written unlike. -/
namespace Go.Vx.Z
open Go Go.Vx
set_option linter.unusedVariables false
set_option maxRecDepth 100000
def tokB (c : UInt8) : Bool := !(c == 44 || c == 93 || c == 41 || c == 32 || c == 124)
theorem dig_tok {c : UInt8} (h : dig1 c = true) : tokB c = true := by
 unfold dig1 at h
 rw [Bool.and_eq_true, decide_eq_true_eq, decide_eq_true_eq] at h
 unfold tokB
 have key : ∀ d : UInt8, (d.toNat < 48 ∨ 57 < d.toNat) → (c == d) = false := fun d hd => by
  rw [← Bool.not_eq_true, beq_iff_eq]
  intro he
  subst he
  omega
 rw [key 44 (by decide), key 93 (by decide), key 41 (by decide), key 32 (by decide), key 124 (by decide)]
 rfl
theorem jn_tok : ∀ (ws : List (List UInt8)), (∀ w ∈ ws, w ∈ preW) → ∀ c ∈ jn ws, tokB c = true
 | [], _, c, hc => by cases hc
 | [w], h, c, hc => by
  have key : ∀ w ∈ preW, ∀ c ∈ w, tokB c = true := by decide
  exact key w (h w (by simp)) c hc
 | w :: v :: l, h, c, hc => by
  have key : ∀ w ∈ preW, ∀ c ∈ w, tokB c = true := by decide
  rw [jn] at hc
  rcases List.mem_append.1 hc with hc | hc
  ·exact key w (h w (by simp)) c hc
  ·rcases List.mem_cons.1 hc with rfl | hc
   ·rfl
   ·exact jn_tok (v :: l) (fun u hu => h u (by simp [hu])) c hc
theorem verT_tok {v : Ver} (h : okMk v) : ∀ c ∈ verT v, tokB c = true := by
 obtain ⟨_, _, _, _, n, _, ws, _, h2, h3⟩ := h
 intro c hc
 unfold verT at hc
 rcases List.mem_cons.1 hc with rfl | hc
 ·rfl
 rcases List.mem_append.1 hc with hc | hc
 ·exact dig_tok (dec_all _ c hc)
 rcases List.mem_cons.1 hc with rfl | hc
 ·rfl
 rcases List.mem_append.1 hc with hc | hc
 ·exact dig_tok (dec_all _ c hc)
 rcases List.mem_cons.1 hc with rfl | hc
 ·rfl
 rcases List.mem_append.1 hc with hc | hc
 ·exact dig_tok (dec_all _ c hc)
 split at hc
 ·cases hc
 ·rcases List.mem_cons.1 hc with rfl | hc
  ·rfl
  ·rw [h3] at hc
   exact jn_tok ws h2 c hc
end Go.Vx.Z
/-! Numbers as texts; scans. -/
namespace Go.Vx
open Go
set_option linter.unusedVariables false
theorem tw_len {α : Type} (p : α → Bool) : ∀ (l : List α), (l.takeWhile p).length ≤ l.length
 | [] => by simp
 | x :: l => by
  rw [List.takeWhile_cons]
  split
  ·have := tw_len p l
   simp only [List.length_cons]; omega
  ·simp
theorem tw_all {α : Type} {p : α → Bool} : ∀ (l : List α), (∀ c ∈ l, p c = true) → l.takeWhile p = l
 | [], _ => rfl
 | x :: l, h => by rw [List.takeWhile_cons, h x (by simp), if_pos rfl, tw_all l fun c hc => h c (by simp [hc])]
theorem tw_app {α : Type} {p : α → Bool} : ∀ (u x : List α), (∀ c ∈ u, p c = true) → (∀ c l, x = c :: l → p c = false) → (u ++ x).takeWhile p = u ∧ (u ++ x).dropWhile p = x
 | [], x, _, h => by
  cases x with
  | nil => exact ⟨rfl, rfl⟩
  | cons c l =>
   have hc := h c l rfl
   simp [hc]
 | y :: u, x, hu, h => by
  obtain ⟨h1, h2⟩ := tw_app u x (fun c hc => hu c (by simp [hc])) h
  have hy := hu y (by simp)
  simp [hy, h1, h2]
theorem tw_mem {α : Type} {p : α → Bool} : ∀ (l : List α), ∀ c ∈ l.takeWhile p, p c = true
 | [], c, h => by simp at h
 | x :: l, c, h => by
  rw [List.takeWhile_cons] at h
  split at h
  ·rename_i hx
   rcases List.mem_cons.1 h with rfl | h
   ·exact hx
   ·exact tw_mem l c h
  ·simp at h
theorem dw_head {α : Type} {p : α → Bool} : ∀ (l : List α) c m, l.dropWhile p = c :: m → p c = false
 | [], c, m, h => by simp at h
 | x :: l, c, m, h => by
  rw [List.dropWhile_cons] at h
  split at h
  ·exact dw_head l c m h
  ·rename_i hx
   injection h with h1 _
   rw [← h1]
   simpa using hx
theorem dw_drop {α : Type} (p : α → Bool) (l : List α) : l.dropWhile p = l.drop (l.takeWhile p).length := by
 have h := List.takeWhile_append_dropWhile (p := p) (l := l)
 conv => rhs; rw [← h]
 rw [List.drop_left']
 rw [h]
theorem tw_take {α : Type} (p : α → Bool) (l : List α) : l.takeWhile p = l.take (l.takeWhile p).length := by
 have h := List.takeWhile_append_dropWhile (p := p) (l := l)
 conv => rhs; rw [← h]
 rw [List.take_left']
 rw [h]
theorem scan {P E : Type} {B : P → Option (P ⊕ E)} (l : List UInt8) (p : UInt8 → Bool) (st : Nat → P) (en : Nat → E)
  (hs : ∀ i (h : i < l.length), p l[i] = true → B (st i) = some (.inl (st (i + 1)))) (hx : ∀ i (h : i < l.length), p l[i] = false → B (st i) = some (.inr (en i))) (he : B (st l.length) = some (.inr (en l.length))) :
  ∀ j, j ≤ l.length → loop B (st j) = some (en (j + ((l.drop j).takeWhile p).length)) := by
 have key : ∀ d j, l.length - j = d → j ≤ l.length → loop B (st j) = some (en (j + ((l.drop j).takeWhile p).length)) := by
  intro d
  induction d with
  | zero =>
   intro j h1 h2
   have : j = l.length := by omega
   subst this
   rw [List.drop_length]
   exact loop_end he
  | succ d ih =>
   intro j h1 h2
   have hlt : j < l.length := by omega
   rw [List.drop_eq_getElem_cons hlt, List.takeWhile_cons]
   cases hp : p l[j] with
   | true =>
    rw [if_pos rfl]
    have := ih (j + 1) (by omega) hlt
    rw [show j + (l[j] :: (l.drop (j + 1)).takeWhile p).length = j + 1 + ((l.drop (j + 1)).takeWhile p).length by simp; omega]
    exact loop_step (hs j hlt hp) this
   | false =>
    rw [if_neg (by decide)]
    exact loop_end (hx j hlt hp)
 intro j hj
 exact key _ j rfl hj
def numOf (l : List UInt8) : Option Nat := if l = [] ∨ 9 < l.length ∨ (1 < l.length ∧ l.head? = some 48) ∨ l.all dig1 = false then none else some (numB l)
def numR (l : List UInt8) : Int × Bool × Unit := match numOf l with
 | some n => ((n : Int), true, ())
 | none => (0, false, ())
theorem snoc_ind {α : Type} {P : List α → Prop} (h0 : P []) (h1 : ∀ l c, P l → P (l ++ [c])) (l : List α) : P l := by
 have key : ∀ m : List α, P m.reverse := fun m => by
  induction m with
  | nil => exact h0
  | cons x m ih => rw [List.reverse_cons]; exact h1 _ _ ih
 have := key l.reverse
 rwa [List.reverse_reverse] at this
theorem numB_le (l : List UInt8) : numB l + 23 ≤ 23 * 10 ^ l.length := by
 refine snoc_ind (P := fun l => numB l + 23 ≤ 23 * 10 ^ l.length) (by simp [numB]) (fun l c ih => ?_) l
 rw [numB_snoc, List.length_append, List.length_singleton, Nat.pow_succ]
 have := c.toNat_lt
 omega
theorem numB_lt (l : List UInt8) (h : l.all dig1 = true) : numB l < 10 ^ l.length := by
 revert h
 refine snoc_ind (P := fun l => l.all dig1 = true → numB l < 10 ^ l.length) (fun _ => by simp [numB]) (fun l c ih h => ?_) l
 rw [List.all_append, Bool.and_eq_true] at h
 have h1 := ih h.1
 have h2 : dig1 c = true := by simpa using h.2
 unfold dig1 at h2
 rw [Bool.and_eq_true, decide_eq_true_eq, decide_eq_true_eq] at h2
 rw [numB_snoc, List.length_append, List.length_singleton, Nat.pow_succ]
 omega
theorem tw_dig (l : List UInt8) : ((l.takeWhile dig1).length = l.length) = (l.all dig1 = true) := by
 apply propext
 constructor
 ·intro h
  rw [List.all_eq_true]
  intro c hc
  rw [← List.take_length (l := l), ← h, ← tw_take] at hc
  exact tw_mem l c hc
 ·intro h
  rw [tw_all l (List.all_eq_true.1 h)]
namespace Z
set_option maxRecDepth 100000
theorem dig_lt {c : UInt8} (h : dig1 c = true) : 48 ≤ c.toNat ∧ c.toNat ≤ 57 := by
 unfold dig1 at h
 rwa [Bool.and_eq_true, decide_eq_true_eq, decide_eq_true_eq] at h
theorem dig_no {c : UInt8} (h : dig1 c = false) : c.toNat < 48 ∨ 57 < c.toNat := by
 unfold dig1 at h
 rw [Bool.and_eq_false_iff, decide_eq_false_iff_not, decide_eq_false_iff_not] at h
 omega
theorem num_next (s : ByteArray) (h9 : s.size ≤ 9) (i : Nat) (h : i < (bs s).length) (hd : dig1 (bs s)[i] = true) :
  IntKind.wrap IntKind.i64 (IntKind.wrap IntKind.i64 (Int.ofNat 10 * ((numB ((bs s).take i) : Nat) : Int)) + IntKind.wrap IntKind.i64 (IntKind.wrap IntKind.u8 (((bs s)[i].toNat : Int) - Int.ofNat 48))) = ((numB ((bs s).take (i + 1)) : Nat) : Int) := by
 have hle := numB_le ((bs s).take i)
 have hp : 10 ^ ((bs s).take i).length ≤ 10 ^ 9 := Nat.pow_le_pow_right (by omega) (by rw [List.length_take, ← bs_size]; omega)
 have h1 := dig_lt hd
 rw [List.take_succ_eq_append_getElem h, numB_snoc]
 generalize numB ((bs s).take i) = n at *
 have hn : n ≤ 23000000000 := by omega
 have e0 : Int.ofNat 10 * (n : Int) = ((10 * n : Nat) : Int) := by simp
 rw [e0, wrap64 (x := ((10 * n : Nat) : Int)) (by omega) (by omega), wrap8 (x := ((bs s)[i].toNat : Int) - Int.ofNat 48) (by show 0 ≤ ((bs s)[i].toNat : Int) - 48; omega) (by show ((bs s)[i].toNat : Int) - 48 ≤ 255; omega),
  wrap64 (x := ((bs s)[i].toNat : Int) - Int.ofNat 48) (by show _ ≤ ((bs s)[i].toNat : Int) - 48; omega) (by show ((bs s)[i].toNat : Int) - 48 ≤ _; omega)]
 have e1 : ((10 * n : Nat) : Int) + (((bs s)[i].toNat : Int) - Int.ofNat 48) = ((10 * n + ((bs s)[i].toNat - 48) : Nat) : Int) := by
  show ((10 * n : Nat) : Int) + (((bs s)[i].toNat : Int) - 48) = _
  omega
 rw [e1, wrap64 (by omega) (by omega)]
theorem lt48 {c : UInt8} : decide (((c.toNat : Nat) : Int) < Int.ofNat 48) = decide (c.toNat < 48) := by
 rw [decide_eq_decide]; show ((c.toNat : Int) < 48) ↔ _; omega
theorem gt57 {c : UInt8} : decide (((c.toNat : Nat) : Int) > Int.ofNat 57) = decide (57 < c.toNat) := by
 rw [decide_eq_decide]; show ((57 : Int) < c.toNat) ↔ _; omega
theorem B103_is (s : ByteArray) (h9 : s.size ≤ 9) : loop B103_0 (s, Int.ofNat 0, Int.ofNat s.size, Int.ofNat 0, ()) = some (if (bs s).all dig1 = true then .inr ((numB (bs s) : Int), ()) else .inl (0, false, ())) := by
 have hl := bs_size s
 have := scan (B := B103_0) (bs s) dig1 (fun i => (s, ((numB ((bs s).take i) : Nat) : Int), Int.ofNat s.size, (i : Int), ())) (fun i => if i = (bs s).length then .inr ((numB (bs s) : Int), ()) else .inl (0, false, ())) (fun i h hp => by
  have hlt : i < s.size := by omega
  have h1 := dig_lt hp
  rw [B103_0_eq]
  simp only [lt_in hlt, ge_zero, Bool.and_self, cond_true, bt_eq s i hlt, lt48, gt57, wrap_next hlt (by omega)]
  rw [decide_eq_false (show ¬ (bs s)[i].toNat < 48 by omega), decide_eq_false (show ¬ 57 < (bs s)[i].toNat by omega)]
  simp only [cond_false]
  rw [num_next s h9 i h hp]) (fun i h hp => by
  have hlt : i < s.size := by omega
  have h1 := dig_no hp
  rw [B103_0_eq]
  simp only [lt_in hlt, ge_zero, Bool.and_self, cond_true, bt_eq s i hlt, lt48, gt57]
  rw [if_neg (by omega)]
  generalize (bs s)[i] = c at *
  by_cases h2 : c.toNat < 48
  ·rw [decide_eq_true h2]; rfl
  ·rw [decide_eq_false h2, decide_eq_true (show 57 < c.toNat by omega)]; rfl) (by
  rw [B103_0_eq]
  rw [if_pos rfl, List.take_length]
  simp only [← hl, lt_out, cond_false]) 0 (Nat.zero_le _)
 rw [List.drop_zero, Nat.zero_add] at this
 simp only [tw_dig] at this
 exact this
theorem B63_is (s : ByteArray) (h9 : s.size ≤ 9) : loop B63_0 (s, Int.ofNat 0, Int.ofNat 0, ()) = some (if (bs s).all dig1 = true then .inr ((numB (bs s) : Int), ()) else .inl (0, false, ())) := by
 have hl := bs_size s
 have := scan (B := B63_0) (bs s) dig1 (fun i => (s, ((numB ((bs s).take i) : Nat) : Int), (i : Int), ())) (fun i => if i = (bs s).length then .inr ((numB (bs s) : Int), ()) else .inl (0, false, ())) (fun i h hp => by
  have hlt : i < s.size := by omega
  have h1 := dig_lt hp
  rw [B63_0_eq]
  simp only [lt_in hlt, ge_zero, Bool.and_self, cond_true, bt_eq s i hlt, lt48, gt57, wrap_next hlt (by omega)]
  rw [decide_eq_false (show ¬ (bs s)[i].toNat < 48 by omega), decide_eq_false (show ¬ 57 < (bs s)[i].toNat by omega)]
  simp only [cond_false]
  rw [num_next s h9 i h hp]) (fun i h hp => by
  have hlt : i < s.size := by omega
  have h1 := dig_no hp
  rw [B63_0_eq]
  simp only [lt_in hlt, ge_zero, Bool.and_self, cond_true, bt_eq s i hlt, lt48, gt57]
  rw [if_neg (by omega)]
  generalize (bs s)[i] = c at *
  by_cases h2 : c.toNat < 48
  ·rw [decide_eq_true h2]; rfl
  ·rw [decide_eq_false h2, decide_eq_true (show 57 < c.toNat by omega)]; rfl) (by
  rw [B63_0_eq]
  rw [if_pos rfl, List.take_length]
  simp only [← hl, lt_out, cond_false]) 0 (Nat.zero_le _)
 rw [List.drop_zero, Nat.zero_add] at this
 simp only [tw_dig] at this
 exact this
theorem head_bt (s : ByteArray) (h : 0 < s.size) (c : UInt8) : (bt s (Int.ofNat 0) == ((c.toNat : Nat) : Int)) = ((bs s).head? == some c) := by
 have hl := bs_size s
 have hb := bt_eq s 0 h
 have h0 : (bs s).head? = some ((bs s)[0]'(by omega)) := by rw [List.head?_eq_getElem?, List.getElem?_eq_getElem (by omega)]
 have hb' : bt s (Int.ofNat 0) = (((bs s)[0]'(by omega)).toNat : Int) := hb
 rw [hb', h0]
 generalize (bs s)[0]'(by omega) = d
 rw [Bool.eq_iff_iff]
 simp only [beq_iff_eq, Option.some.injEq]
 constructor
 ·intro h; exact UInt8.toNat_inj.1 (by omega)
 ·intro h; rw [h]
theorem num_tail (s : ByteArray) (f : ((Int × Bool × Unit) ⊕ (Int × Unit)) → Option (Int × Bool × Unit)) (hf : f = fun r => Sum.elim (fun p => some (p.1, p.2.1, ())) (fun p => some (p.1, true, ())) r)
  (h1 : bs s ≠ []) (h2 : (bs s).length ≤ 9) (h3 : ¬ (1 < (bs s).length ∧ (bs s).head? = some 48)) : f (if (bs s).all dig1 = true then .inr ((numB (bs s) : Int), ()) else .inl (0, false, ())) = some (numR (bs s)) := by
 subst hf
 unfold numR numOf
 by_cases h : (bs s).all dig1 = true
 ·rw [if_pos h, if_neg (by rw [h]; rintro (h' | h' | h' | h'); exact h1 h'; omega; exact h3 h'; cases h')]
  rfl
 ·rw [if_neg h, if_pos (.inr (.inr (.inr (by simpa using h))))]
  rfl
theorem F103_is (s : ByteArray) : F103 (s, ()) = some (numR (bs s)) := by
 have hl := bs_size s
 rw [F103_eq]
 by_cases h0 : s.size < 1
 ·rw [show decide (Int.ofNat s.size < Int.ofNat 1) = true from decide_eq_true (by show (s.size : Int) < 1; omega), cond_true]
  unfold numR numOf
  rw [if_pos (.inl (List.length_eq_zero_iff.1 (by omega)))]
  rfl
 rw [show decide (Int.ofNat s.size < Int.ofNat 1) = false from decide_eq_false (by show ¬ (s.size : Int) < 1; omega), cond_false]
 have hne : bs s ≠ [] := fun h => by
  have := congrArg List.length h
  simp only [List.length_nil] at this
  omega
 by_cases h9 : 9 < s.size
 ·rw [show decide (Int.ofNat s.size > Int.ofNat 9) = true from decide_eq_true (by show (9 : Int) < s.size; omega), cond_true]
  unfold numR numOf
  rw [if_pos (.inr (.inl (by omega)))]
  rfl
 rw [show decide (Int.ofNat s.size > Int.ofNat 9) = false from decide_eq_false (by show ¬ (9 : Int) < s.size; omega), cond_false]
 rw [B103_is s (by omega), obs]
 have h48 := head_bt s (by omega) 48
 have h48' : (bt s (Int.ofNat 0) == Int.ofNat 48) = ((bs s).head? == some 48) := h48
 rw [show decide (Int.ofNat 0 < Int.ofNat s.size) = true from decide_eq_true (by show (0 : Int) < s.size; omega), cond_true, h48']
 by_cases h1 : 1 < s.size
 ·rw [show decide (Int.ofNat s.size > Int.ofNat 1) = true from decide_eq_true (by show (1 : Int) < s.size; omega), cond_true]
  by_cases hh : (bs s).head? = some 48
  ·have hn : numOf (bs s) = none := by
    unfold numOf
    rw [if_pos (.inr (.inr (.inl ⟨by omega, hh⟩)))]
   rw [hh]
   unfold numR
   rw [hn]
   rfl
  ·rw [show ((bs s).head? == some 48) = false by simpa using hh, cond_false]
   exact num_tail s _ rfl hne (by omega) (fun h => hh h.2)
 ·rw [show decide (Int.ofNat s.size > Int.ofNat 1) = false from decide_eq_false (by show ¬ (1 : Int) < s.size; omega), cond_false]
  exact num_tail s _ rfl hne (by omega) (fun h => by omega)
theorem F63_is (s : ByteArray) : F63 (s, ()) = some (numR (bs s)) := by
 have hl := bs_size s
 rw [F63_eq]
 by_cases h0 : s.size < 1
 ·rw [show decide (Int.ofNat s.size < Int.ofNat 1) = true from decide_eq_true (by show (s.size : Int) < 1; omega), cond_true]
  unfold numR numOf
  rw [if_pos (.inl (List.length_eq_zero_iff.1 (by omega)))]
  rfl
 rw [show decide (Int.ofNat s.size < Int.ofNat 1) = false from decide_eq_false (by show ¬ (s.size : Int) < 1; omega), cond_false]
 have hne : bs s ≠ [] := fun h => by
  have := congrArg List.length h
  simp only [List.length_nil] at this
  omega
 by_cases h9 : 9 < s.size
 ·rw [show decide (Int.ofNat s.size > Int.ofNat 9) = true from decide_eq_true (by show (9 : Int) < s.size; omega), cond_true]
  unfold numR numOf
  rw [if_pos (.inr (.inl (by omega)))]
  rfl
 rw [show decide (Int.ofNat s.size > Int.ofNat 9) = false from decide_eq_false (by show ¬ (9 : Int) < s.size; omega), cond_false]
 rw [B63_is s (by omega), obs]
 have h48 := head_bt s (by omega) 48
 have h48' : (bt s (Int.ofNat 0) == Int.ofNat 48) = ((bs s).head? == some 48) := h48
 rw [show decide (Int.ofNat 0 < Int.ofNat s.size) = true from decide_eq_true (by show (0 : Int) < s.size; omega), cond_true, h48']
 by_cases h1 : 1 < s.size
 ·rw [show decide (Int.ofNat s.size > Int.ofNat 1) = true from decide_eq_true (by show (1 : Int) < s.size; omega), cond_true]
  by_cases hh : (bs s).head? = some 48
  ·have hn : numOf (bs s) = none := by
    unfold numOf
    rw [if_pos (.inr (.inr (.inl ⟨by omega, hh⟩)))]
   rw [hh]
   unfold numR
   rw [hn]
   rfl
  ·rw [show ((bs s).head? == some 48) = false by simpa using hh, cond_false]
   exact num_tail s _ rfl hne (by omega) (fun h => hh h.2)
 ·rw [show decide (Int.ofNat s.size > Int.ofNat 1) = false from decide_eq_false (by show ¬ (1 : Int) < s.size; omega), cond_false]
  exact num_tail s _ rfl hne (by omega) (fun h => by omega)
end Z
end Go.Vx
/-! Versions that may be. -/
namespace Go.Vx
open Go
set_option linter.unusedVariables false
def letter1 (c : UInt8) : Bool := (decide (97 ≤ c.toNat) && decide (c.toNat ≤ 122)) || (decide (65 ≤ c.toNat) && decide (c.toNat ≤ 90)) || c == 45
def idc (c : UInt8) : Bool := dig1 c || letter1 c
def wordOk (w : List UInt8) : Bool := !w.isEmpty && !(decide (1 < w.length) && (w.head? == some 48) && w.all dig1) && w.all idc
def preOk (w : List UInt8) : Bool := decide (w.length ≤ 40) && (w.isEmpty || (splitB 46 w).all wordOk)
def inN (A : Int) : Bool := decide (0 ≤ A) && decide (A ≤ 999999)
def rightB (A B C : Int) (pre : List UInt8) : Bool := inN A && inN B && inN C && preOk pre
theorem tw_allB {p : UInt8 → Bool} (l : List UInt8) : ((l.takeWhile p).length = l.length) = (l.all p = true) := by
 apply propext
 constructor
 ·intro h
  rw [List.all_eq_true]
  intro c hc
  rw [← List.take_length (l := l), ← h, ← tw_take] at hc
  exact tw_mem l c hc
 ·intro h
  rw [tw_all l (List.all_eq_true.1 h)]
namespace Z
set_option maxRecDepth 100000
abbrev idL : List UInt8 := [97, 98, 99, 100, 101, 102, 103, 104, 105, 106, 107, 108, 109, 110, 111, 112, 113, 114, 115, 116, 117, 118, 119, 120, 121, 122, 65, 66, 67, 68, 69, 70, 71, 72, 73, 74, 75, 76, 77, 78, 79, 80, 81, 82, 83, 84, 85, 86, 87, 88, 89, 90, 48, 49, 50, 51, 52, 53, 54, 55, 56, 57, 45]
theorem byte_all {P : UInt8 → Prop} (h : ∀ n, n < 256 → P (UInt8.ofNat n)) (c : UInt8) : P c := by
 have := h c.toNat c.toNat_lt
 rwa [UInt8.ofNat_toNat] at this
theorem idx_neg (l : List UInt8) (c : UInt8) : decide (Lib.indexByte l c < Int.ofNat 0) = !l.contains c := by
 induction l with
 | nil => rfl
 | cons x l ih =>
  unfold Lib.indexByte
  rw [List.contains_cons]
  by_cases hx : x = c
  ·subst hx
   rw [if_pos (by simp)]
   simp
  ·have h1 : (x == c) = false := by simpa using hx
   have h2 : (c == x) = false := by simpa using fun e => hx e.symm
   rw [h1, h2, Bool.false_or, ← ih]
   by_cases hl : Lib.indexByte l c = -1
   ·rw [hl]; rfl
   ·have := Lib.indexByte_ge l c
    have h3 : (Lib.indexByte l c == -1) = false := by simpa using hl
    simp only [h3]
    show decide ((if false = true then (-1 : Int) else if false = true then -1 else _) < Int.ofNat 0) = _
    rw [if_neg (by decide), if_neg (by decide), decide_eq_false (by show ¬ (Lib.indexByte l c + 1 < (0 : Int)); omega), decide_eq_false (by show ¬ (Lib.indexByte l c < (0 : Int)); omega)]
theorem id_in (c : UInt8) : idL.contains c = idc c := byte_all (P := fun c => idL.contains c = idc c) (by decide) c
theorem F133_id (c : UInt8) : F133 ((lit idL), ((c.toNat : Nat) : Int), ()) = some (Lib.indexByte idL c, ()) := by
 rw [F133_eq, F161_eq, xIndexByte_eq, obs, bs_lit]
 rw [Int.toNat_natCast, show c.toNat.toUInt8 = c from UInt8.ofNat_toNat]
theorem F144_is (s : ByteArray) (hs : s.size ≤ 1099511627776) : F144 (s, ()) = some (wordOk (bs s), ()) := by
 have hl := bs_size s
 rw [F144_eq]
 have := scan (B := B144_0) (bs s) idc (fun i => (s, Int.ofNat s.size, (i : Int), ())) (fun i => if i = (bs s).length then .inr (s, ()) else .inl (false, ())) (fun i h hp => by
  have hlt : i < s.size := by omega
  rw [B144_0_eq]
  simp only [lt_in hlt, ge_zero, Bool.and_self, cond_true, bt_eq s i hlt, wrap_next hlt (by omega)]
  rw [F133_id, obs]
  show (bif decide (Lib.indexByte idL _ < Int.ofNat 0) then _ else _) = _
  rw [idx_neg, id_in, hp]
  rfl) (fun i h hp => by
  have hlt : i < s.size := by omega
  rw [B144_0_eq]
  simp only [lt_in hlt, ge_zero, Bool.and_self, cond_true, bt_eq s i hlt]
  rw [F133_id, obs]
  show (bif decide (Lib.indexByte idL _ < Int.ofNat 0) then _ else _) = _
  rw [idx_neg, id_in, hp, if_neg (by omega)]
  rfl) (by
  rw [B144_0_eq]
  rw [if_pos rfl]
  simp only [← hl, lt_out, cond_false]) 0 (Nat.zero_le _)
 rw [List.drop_zero, Nat.zero_add] at this
 simp only [tw_allB] at this
 have h0 : loop B144_0 (s, Int.ofNat s.size, Int.ofNat 0, ()) = _ := this
 rw [h0, obs]
 by_cases ha : (bs s).all idc = true
 ·rw [if_pos ha]
  unfold wordOk
  rw [ha, Bool.and_true]
  simp only [Sum.elim_inr, nil_bs]
  by_cases hn : bs s = []
  ·rw [decide_eq_true hn, hn]; rfl
  ·rw [decide_eq_false hn]
   have hpos : 0 < s.size := by
    rcases Nat.eq_zero_or_pos s.size with h | h
    ·exact absurd (List.length_eq_zero_iff.1 (by omega)) hn
    ·exact h
   rw [show (bs s).isEmpty = false by cases hb : bs s with | nil => exact absurd hb hn | cons x l => rfl]
   simp only [Bool.not_false, cond_true, Bool.true_and]
   have h48 : (bt s (Int.ofNat 0) == Int.ofNat 48) = ((bs s).head? == some 48) := head_bt s hpos 48
   rw [show decide (Int.ofNat s.size > Int.ofNat 1) = decide (1 < (bs s).length) by rw [decide_eq_decide]; show (1 : Int) < (s.size : Int) ↔ _; omega, show decide (Int.ofNat 0 < Int.ofNat s.size) = true from decide_eq_true (by show (0 : Int) < s.size; omega), h48, F149_is s hs, obs]
   cases decide (1 < (bs s).length) with
   | false => rfl
   | true =>
    simp only [cond_true, Bool.true_and]
    cases ((bs s).head? == some 48) with
    | false => rfl
    | true =>
     simp only [cond_true, Bool.true_and]
     congr 2
     unfold allDig
     rw [show (bs s).isEmpty = false by cases hb : bs s with | nil => exact absurd hb hn | cons x l => rfl, Bool.not_false, Bool.and_true]
 ·rw [if_neg ha]
  unfold wordOk
  rw [show (bs s).all idc = false by simpa using ha, Bool.and_false]
  rfl
theorem F62_is (c : UInt8) : F62 (((c.toNat : Nat) : Int), ()) = some (dig1 c, ()) := by
 rw [F62_eq]
 unfold dig1
 rw [show decide (((c.toNat : Nat) : Int) ≥ Int.ofNat 48) = decide (48 ≤ c.toNat) by rw [decide_eq_decide]; show (48 : Int) ≤ _ ↔ _; omega, show decide (((c.toNat : Nat) : Int) ≤ Int.ofNat 57) = decide (c.toNat ≤ 57) by rw [decide_eq_decide]; show _ ≤ (57 : Int) ↔ _; omega]
 cases decide (48 ≤ c.toNat) <;> rfl
theorem F112_is (c : UInt8) : F112 (((c.toNat : Nat) : Int), ()) = some (letter1 c, ()) := by
 rw [F112_eq]
 unfold letter1
 rw [show decide (((c.toNat : Nat) : Int) ≥ Int.ofNat 97) = decide (97 ≤ c.toNat) by rw [decide_eq_decide]; show (97 : Int) ≤ _ ↔ _; omega, show decide (((c.toNat : Nat) : Int) ≤ Int.ofNat 122) = decide (c.toNat ≤ 122) by rw [decide_eq_decide]; show _ ≤ (122 : Int) ↔ _; omega,
  show decide (((c.toNat : Nat) : Int) ≥ Int.ofNat 65) = decide (65 ≤ c.toNat) by rw [decide_eq_decide]; show (65 : Int) ≤ _ ↔ _; omega, show decide (((c.toNat : Nat) : Int) ≤ Int.ofNat 90) = decide (c.toNat ≤ 90) by rw [decide_eq_decide]; show _ ≤ (90 : Int) ↔ _; omega,
  show (((c.toNat : Nat) : Int) == Int.ofNat 45) = (c == 45) by
   rw [Bool.eq_iff_iff, beq_iff_eq, beq_iff_eq]
   constructor
   ·intro h
    have h2 : ((c.toNat : Nat) : Int) = 45 := h
    exact UInt8.toNat_inj.1 (by show c.toNat = 45; omega)
   ·intro h; rw [h]; rfl]
 cases decide (97 ≤ c.toNat) <;> cases decide (c.toNat ≤ 122) <;> cases decide (65 ≤ c.toNat) <;> cases decide (c.toNat ≤ 90) <;> cases (c == 45) <;> rfl
theorem B91_is (s : ByteArray) (hs : s.size ≤ 1099511627776) : loop B91_0 (s, Int.ofNat 0, ()) = some (if (bs s).all idc = true then .inr () else .inl (false, ())) := by
 have hl := bs_size s
 have := scan (B := B91_0) (bs s) idc (fun i => (s, (i : Int), ())) (fun i => if i = (bs s).length then .inr () else .inl (false, ())) (fun i h hp => by
  have hlt : i < s.size := by omega
  rw [B91_0_eq]
  simp only [lt_in hlt, ge_zero, Bool.and_self, cond_true, bt_eq s i hlt, wrap_next hlt (by omega)]
  rw [F62_is, obs, F112_is, obs]
  unfold idc at hp
  simp only
  generalize (bs s)[i] = c at *
  cases hd : dig1 c with
  | true => rfl
  | false => rw [hd, Bool.false_or] at hp; rw [hp]; rfl) (fun i h hp => by
  have hlt : i < s.size := by omega
  rw [B91_0_eq]
  simp only [lt_in hlt, ge_zero, Bool.and_self, cond_true, bt_eq s i hlt]
  rw [F62_is, obs, F112_is, obs, if_neg (by omega)]
  unfold idc at hp
  rw [Bool.or_eq_false_iff] at hp
  simp only [hp.1, hp.2]
  rfl) (by
  rw [B91_0_eq]
  rw [if_pos rfl]
  simp only [← hl, lt_out, cond_false]) 0 (Nat.zero_le _)
 rw [List.drop_zero, Nat.zero_add] at this
 simp only [tw_allB] at this
 exact this
theorem F91_is (s : ByteArray) (hs : s.size ≤ 1099511627776) : F91 (s, ()) = some (wordOk (bs s), ()) := by
 have hl := bs_size s
 rw [F91_eq, nil_bs, B91_is s hs, F75_is s hs]
 simp only [obs]
 by_cases hn : bs s = []
 ·rw [decide_eq_true hn, hn]; rfl
 ·rw [decide_eq_false hn, cond_false]
  have hpos : 0 < s.size := by
   rcases Nat.eq_zero_or_pos s.size with h | h
   ·exact absurd (List.length_eq_zero_iff.1 (by omega)) hn
   ·exact h
  have he : (bs s).isEmpty = false := by cases hb : bs s with | nil => exact absurd hb hn | cons x l => rfl
  have h48 : (bt s (Int.ofNat 0) == Int.ofNat 48) = ((bs s).head? == some 48) := head_bt s hpos 48
  rw [show decide (Int.ofNat s.size > Int.ofNat 1) = decide (1 < (bs s).length) by rw [decide_eq_decide]; show (1 : Int) < (s.size : Int) ↔ _; omega, show decide (Int.ofNat 0 < Int.ofNat s.size) = true from decide_eq_true (by show (0 : Int) < s.size; omega), h48]
  unfold wordOk allDig
  rw [he]
  by_cases ha : (bs s).all idc = true
  ·rw [if_pos ha, ha]
   cases (bs s).all dig1 <;> cases decide (1 < (bs s).length) <;> cases ((bs s).head? == some 48) <;> rfl
  ·rw [if_neg ha, show (bs s).all idc = false by simpa using ha]
   cases (bs s).all dig1 <;> cases decide (1 < (bs s).length) <;> cases ((bs s).head? == some 48) <;> rfl
theorem F141_is (A : Int) : F141 (A, ()) = some (inN A, ()) := by
 rw [F141_eq]
 unfold inN
 rw [show decide (A ≥ Int.ofNat 0) = decide (0 ≤ A) from rfl]
 cases decide (0 ≤ A) <;> rfl
theorem F166_is (ws : List ByteArray) (hl : ws.length ≤ 1099511627776) (hw : ∀ w ∈ ws, w.size ≤ 1099511627776) : F166 (ws, ()) = some (if ws.findIdx (fun w => !wordOk (bs w)) < ws.length then (ws.findIdx (fun w => !wordOk (bs w)) : Int) else -1, ()) := by
 rw [F166_eq]
 have := loop_at (B := B166_0) ws (fun i => (ws, Int.ofNat ws.length, (i : Int), ())) (fun w => !wordOk (bs w)) (fun i => .inl ((i : Int), ())) (.inr ()) (fun i h => by
  rw [B166_0_eq]
  simp only [lt_in h, ge_zero, cond_true, at_in h, obs, wrap_next h (by omega)]
  rw [F143_eq, F144_is _ (hw _ (List.getElem_mem h)), obs, obs]
  cases wordOk (bs ws[i]) <;> rfl) (by
  rw [B166_0_eq]
  simp only [lt_out, cond_false])
 have h0 : loop B166_0 (ws, Int.ofNat ws.length, Int.ofNat 0, ()) = _ := this
 rw [h0, obs]
 split <;> rfl
theorem all_find {α : Type} (p : α → Bool) (l : List α) : (l.findIdx (fun w => !p w) < l.length) = (l.all p = false) := by
 apply propext
 constructor
 ·intro h
  rw [List.all_eq_false]
  have := List.findIdx_getElem (w := h)
  exact ⟨_, List.getElem_mem h, by simpa using this⟩
 ·intro h
  rw [List.all_eq_false] at h
  obtain ⟨x, h1, h2⟩ := h
  exact List.findIdx_lt_length_of_exists ⟨x, h1, by simpa using h2⟩
theorem F142_is (ws : List ByteArray) (hl : ws.length ≤ 1099511627776) (hw : ∀ w ∈ ws, w.size ≤ 1099511627776) : F142 (ws, ()) = some (!ws.all (fun w => wordOk (bs w)), ()) := by
 rw [F142_eq, F166_is ws hl hw, obs]
 by_cases h : ws.all (fun w => wordOk (bs w)) = false
 ·rw [if_pos (by rw [all_find (fun w => wordOk (bs w))]; exact h), h]
  exact congrArg (fun z => some (z, ())) (decide_eq_true (Int.natCast_nonneg _))
 ·rw [if_neg (by rw [all_find (fun w => wordOk (bs w))]; exact h), show ws.all (fun w => wordOk (bs w)) = true by simpa using h]
  rfl
theorem split_len (s : ByteArray) : (splitDot s).length ≤ s.size + 1 := by
 unfold splitDot
 rw [List.length_map, splitB_length, bs_size]
 have := List.count_le_length (a := (46 : UInt8)) (l := bs s)
 omega
theorem split_all (s : ByteArray) (p : List UInt8 → Bool) : (splitDot s).all (fun w => p (bs w)) = (splitB 46 (bs s)).all p := by
 unfold splitDot
 rw [List.all_map]
 rfl
theorem F105_is (A B C : Int) (s : ByteArray) : F105 (A, B, C, s, ()) = some (rightB A B C (bs s), ()) := by
 have hl := bs_size s
 rw [F105_eq, F141_is, F141_is, F141_is]
 simp only [obs]
 unfold rightB
 cases inN A with
 | false => rfl
 | true =>
 cases inN B with
 | false => rfl
 | true =>
 cases inN C with
 | false => rfl
 | true =>
  simp only [Bool.not_true, cond_false, Bool.true_and]
  unfold preOk
  by_cases h40 : s.size ≤ 40
  ·rw [show decide (Int.ofNat s.size > Int.ofNat 40) = false from decide_eq_false (by show ¬ (40 : Int) < s.size; omega), decide_eq_true (show (bs s).length ≤ 40 by omega), nil_bs, cond_false, Bool.true_and]
   by_cases hn : bs s = []
   ·rw [decide_eq_true hn, hn]; rfl
   ·have hsl := split_len s
    have hsz := splitDot_sizes s
    rw [decide_eq_false hn, cond_false]
    have h102 : F102 (s, (lit [46]), ()) = some (splitDot s, ()) := F102_dot s (by omega)
    rw [h102, obs]
    simp only
    rw [F142_is (splitDot s) (by omega) (fun w hw => by have := hsz w hw; omega), obs]
    rw [show (bs s).isEmpty = false by cases hb : bs s with | nil => exact absurd hb hn | cons x l => rfl, Bool.false_or]
    simp only [Bool.not_not]
    rw [split_all s wordOk]
  ·rw [show decide (Int.ofNat s.size > Int.ofNat 40) = true from decide_eq_true (by show (40 : Int) < s.size; omega), decide_eq_false (show ¬ (bs s).length ≤ 40 by omega)]
   rfl
theorem B64_is (ws : List ByteArray) (hl : ws.length ≤ 1099511627776) (hw : ∀ w ∈ ws, w.size ≤ 1099511627776) : loop B64_0 (ws, Int.ofNat 0, ()) = some (if ws.all (fun w => wordOk (bs w)) = false then .inl (false, ()) else .inr ()) := by
 have := loop_at (B := B64_0) ws (fun i => (ws, (i : Int), ())) (fun w => !wordOk (bs w)) (fun i => .inl (false, ())) (.inr ()) (fun i h => by
  rw [B64_0_eq]
  simp only [lt_in h, ge_zero, cond_true, at_in h, obs, wrap_next h (by omega)]
  rw [F91_is _ (hw _ (List.getElem_mem h)), obs]
  cases wordOk (bs ws[i]) <;> rfl) (by
  rw [B64_0_eq]
  simp only [lt_out, cond_false])
 simp only [all_find (fun w => wordOk (bs w))] at this
 exact this
theorem F64_is (A B C : Int) (s : ByteArray) : F64 (A, B, C, s, ()) = some (rightB A B C (bs s), ()) := by
 have hl := bs_size s
 rw [F64_eq]
 unfold rightB
 have e0 : ∀ X : Int, decide (X < Int.ofNat 0) = !decide (0 ≤ X) := fun X => by
  rw [← decide_not, decide_eq_decide]
  show X < 0 ↔ _
  omega
 have hmax : decide ((bif decide (C > bif decide (B > A) then B else A) then C else bif decide (B > A) then B else A) > Int.ofNat 999999) = !(decide (A ≤ 999999) && decide (B ≤ 999999) && decide (C ≤ 999999)) := by
  rw [← Bool.decide_and, ← Bool.decide_and, ← decide_not, decide_eq_decide]
  by_cases h1 : B > A
  ·rw [decide_eq_true h1, cond_true]
   by_cases h2 : C > B
   ·rw [decide_eq_true h2, cond_true]; show (999999 : Int) < C ↔ _; omega
   ·rw [decide_eq_false h2, cond_false]; show (999999 : Int) < B ↔ _; omega
  ·rw [decide_eq_false h1, cond_false]
   by_cases h2 : C > A
   ·rw [decide_eq_true h2, cond_true]; show (999999 : Int) < C ↔ _; omega
   ·rw [decide_eq_false h2, cond_false]; show (999999 : Int) < A ↔ _; omega
 rw [e0, e0, e0, hmax]
 unfold inN preOk
 have hrest : (bif decide (Int.ofNat s.size > Int.ofNat 40) then some (false, ()) else bif bl s == [] then some (true, ()) else Option.bind (F47 (s, ())) fun r => Option.bind (loop B64_0 (r.1, Int.ofNat 0, ())) fun r => Sum.elim (fun p => some (p.1, ())) (fun p => some (true, ())) r) = some (decide ((bs s).length ≤ 40) && ((bs s).isEmpty || (splitB 46 (bs s)).all wordOk), ()) := by
  by_cases h40 : s.size ≤ 40
  ·rw [show decide (Int.ofNat s.size > Int.ofNat 40) = false from decide_eq_false (by show ¬ (40 : Int) < s.size; omega), decide_eq_true (show (bs s).length ≤ 40 by omega), nil_bs, cond_false, Bool.true_and]
   by_cases hn : bs s = []
   ·rw [decide_eq_true hn, hn]; rfl
   ·have hsl := split_len s
    have hsz := splitDot_sizes s
    rw [decide_eq_false hn, cond_false, F47_is s (by omega), obs]
    simp only
    rw [B64_is (splitDot s) (by omega) (fun w hw => by have := hsz w hw; omega), obs]
    rw [show (bs s).isEmpty = false by cases hb : bs s with | nil => exact absurd hb hn | cons x l => rfl, Bool.false_or, ← split_all s wordOk]
    cases (splitDot s).all (fun w => wordOk (bs w)) <;> rfl
  ·rw [show decide (Int.ofNat s.size > Int.ofNat 40) = true from decide_eq_true (by show (40 : Int) < s.size; omega), decide_eq_false (show ¬ (bs s).length ≤ 40 by omega)]
   rfl
 rw [hrest]
 generalize (decide ((bs s).length ≤ 40) && ((bs s).isEmpty || (splitB 46 (bs s)).all wordOk)) = w
 cases decide (0 ≤ A) <;> cases decide (0 ≤ B) <;> cases decide (0 ≤ C) <;> cases decide (A ≤ 999999) <;> cases decide (B ≤ 999999) <;> cases decide (C ≤ 999999) <;> rfl
end Z
end Go.Vx
/-! ver.Parse, of the program, of the document. -/
namespace Go.Vx
open Go
set_option linter.unusedVariables false
theorem splitB_jn (l : List UInt8) : jn (splitB 46 l) = l := by
 induction l with
 | nil => rfl
 | cons x l ih =>
  rw [splitB_cons]
  have hne := splitB_ne 46 l
  cases hs : splitB 46 l with
  | nil => exact absurd hs hne
  | cons w ws =>
   rw [hs] at ih
   by_cases hx : x = 46
   ·subst hx
    rw [if_pos (by decide)]
    show [] ++ 46 :: jn (w :: ws) = _
    rw [ih]; rfl
   ·rw [if_neg (by simpa using hx)]
    cases ws with
    | nil => show x :: w = _; rw [← ih]; rfl
    | cons v ws => show (x :: w) ++ 46 :: jn (v :: ws) = _; rw [← ih]; rfl
theorem idx_tw (c : UInt8) (l : List UInt8) : Lib.indexByte l c = if l.dropWhile (fun x => !(x == c)) = [] then -1 else ((l.takeWhile (fun x => !(x == c))).length : Int) := by
 induction l with
 | nil => rfl
 | cons x l ih =>
  unfold Lib.indexByte
  rw [List.takeWhile_cons, List.dropWhile_cons]
  cases hx : x == c with
  | true => simp
  | false =>
   rw [ih]
   simp only [Bool.not_false, if_true, Bool.false_eq_true, if_false]
   by_cases h : l.dropWhile (fun x => !(x == c)) = []
   ·rw [if_pos h, if_pos h]; rfl
   ·rw [if_neg h, if_neg h]
    have h2 : ∀ n : Nat, (((n : Nat) : Int) == -1) = false := fun n => by
     rw [← Bool.not_eq_true, beq_iff_eq]; omega
    rw [h2]
    simp
def scanN (l : List UInt8) : Option (Nat × List UInt8) := (numOf (l.takeWhile dig1)).map fun n => (n, l.dropWhile dig1)
def sepN (c : UInt8) (l : List UInt8) : Option (Nat × List UInt8) := match l with
 | x :: r => if x = c then scanN r else none
 | [] => none
def tailP (l : List UInt8) : Option (List UInt8) := match l with
 | [] => some []
 | x :: r => if x = 45 ∧ r ≠ [] then some r else none
theorem tailP_cons (x : UInt8) (r : List UInt8) : tailP (x :: r) = if x = 45 ∧ r ≠ [] then some r else none := rfl
def scanV (r : List UInt8) : Option (Nat × Nat × Nat × List UInt8) := (scanN r).bind fun a => (sepN 46 a.2).bind fun b => (sepN 46 b.2).bind fun c => (tailP c.2).map fun p => (a.1, b.1, c.1, p)
def verP (l : List UInt8) : Option (Nat × Nat × Nat × List UInt8) := match l with
 | x :: r => if x = 118 then (scanV r).bind fun v => if rightB v.1 v.2.1 v.2.2.1 v.2.2.2 = true then some v else none else none
 | [] => none
def Form (r : List UInt8) (v : Nat × Nat × Nat × List UInt8) : Prop := ∃ a b c t, r = a ++ 46 :: (b ++ 46 :: (c ++ t)) ∧ numOf a = some v.1 ∧ numOf b = some v.2.1 ∧ numOf c = some v.2.2.1 ∧ tailP t = some v.2.2.2
theorem num_dig {l : List UInt8} {n : Nat} (h : numOf l = some n) : ∀ c ∈ l, dig1 c = true := by
 unfold numOf at h
 split at h
 ·cases h
 ·rename_i h1
  have : l.all dig1 = true := by
   cases ha : l.all dig1 with
   | true => rfl
   | false => exact absurd (.inr (.inr (.inr ha))) h1
  exact List.all_eq_true.1 this
theorem scanN_iff {l : List UInt8} {n : Nat} {r : List UInt8} : scanN l = some (n, r) ↔ ∃ a, l = a ++ r ∧ numOf a = some n ∧ ∀ c m, r = c :: m → dig1 c = false := by
 unfold scanN
 rw [Option.map_eq_some_iff]
 constructor
 ·rintro ⟨k, h1, h2⟩
  simp only [Prod.mk.injEq] at h2
  obtain ⟨rfl, rfl⟩ := h2
  exact ⟨l.takeWhile dig1, (List.takeWhile_append_dropWhile).symm, h1, dw_head l⟩
 ·rintro ⟨a, rfl, h1, h2⟩
  obtain ⟨h3, h4⟩ := tw_app a r (num_dig h1) h2
  exact ⟨n, by rw [h3]; exact h1, by rw [h4]⟩
theorem sepN_iff {c : UInt8} {l : List UInt8} {n : Nat} {r : List UInt8} : sepN c l = some (n, r) ↔ ∃ a, l = c :: (a ++ r) ∧ numOf a = some n ∧ ∀ c m, r = c :: m → dig1 c = false := by
 cases l with
 | nil => simp [sepN]
 | cons x l =>
  show (if x = c then scanN l else none) = _ ↔ _
  by_cases hx : x = c
  ·subst hx
   rw [if_pos rfl, scanN_iff]
   simp
  ·rw [if_neg hx]
   constructor
   ·intro h; cases h
   ·rintro ⟨a, h, _⟩
    injection h with h1 _
    exact absurd h1 hx
theorem tail_nd {t p : List UInt8} (h : tailP t = some p) : ∀ c m, t = c :: m → dig1 c = false := by
 intro c m hc
 subst hc
 unfold tailP at h
 split at h
 ·cases ‹_ :: _ = []›
 ·rename_i x r hx
  injection hx with h1 _
  subst h1
  split at h
  ·rename_i h3; rw [h3.1]; rfl
  ·cases h
theorem nd46 (m : List UInt8) : ∀ c k, (46 :: m) = c :: k → dig1 c = false := by
 intro c k h
 injection h with h _
 rw [← h]; rfl
theorem scanV_iff {r : List UInt8} {v : Nat × Nat × Nat × List UInt8} : scanV r = some v ↔ Form r v := by
 obtain ⟨A, B, C, p⟩ := v
 unfold scanV Form
 simp only [Option.bind_eq_some_iff, Option.map_eq_some_iff, Prod.mk.injEq, Prod.exists]
 constructor
 ·rintro ⟨a, r1, h1, b, r2, h2, c, r3, h3, q, h4, rfl, rfl, rfl, rfl⟩
  obtain ⟨u, rfl, k1, _⟩ := scanN_iff.1 h1
  obtain ⟨v, rfl, k2, _⟩ := sepN_iff.1 h2
  obtain ⟨w, rfl, k3, _⟩ := sepN_iff.1 h3
  exact ⟨u, v, w, r3, rfl, k1, k2, k3, h4⟩
 ·rintro ⟨u, v, w, t, rfl, k1, k2, k3, h4⟩
  exact ⟨A, _, scanN_iff.2 ⟨u, rfl, k1, nd46 _⟩, B, _, sepN_iff.2 ⟨v, rfl, k2, nd46 _⟩, C, _, sepN_iff.2 ⟨w, rfl, k3, tail_nd h4⟩, p, h4, rfl, rfl, rfl, rfl⟩
abbrev front (r : List UInt8) : List UInt8 := r.takeWhile fun x => !(x == 45)
abbrev behind (r : List UInt8) : List UInt8 := r.dropWhile fun x => !(x == 45)
theorem split_iff {r : List UInt8} {v : Nat × Nat × Nat × List UInt8} : Form r v ↔ ∃ a b c, splitB 46 (front r) = [a, b, c] ∧ numOf a = some v.1 ∧ numOf b = some v.2.1 ∧ numOf c = some v.2.2.1 ∧ tailP (behind r) = some v.2.2.2 := by
 unfold Form
 constructor
 ·rintro ⟨a, b, c, t, rfl, k1, k2, k3, h4⟩
  have ht : ∀ x m, t = x :: m → (!(x == 45)) = false := by
   intro x m hx
   subst hx
   unfold tailP at h4
   split at h4
   ·cases ‹_ :: _ = []›
   ·rename_i y r hy
    injection hy with h1 _
    subst h1
    split at h4
    ·rename_i h3; rw [h3.1]; rfl
    ·cases h4
  have hd : ∀ x, dig1 x = true → (!(x == 45)) = true ∧ x ≠ 46 := by
   intro x hx
   have := Z.dig_lt hx
   refine ⟨?_, fun h => ?_⟩
   ·rw [Bool.not_eq_true', ← Bool.not_eq_true, beq_iff_eq]
    intro h
    rw [h] at this
    have h2 : (45 : UInt8).toNat = 45 := rfl
    omega
   ·rw [h] at this
    have h2 : (46 : UInt8).toNat = 46 := rfl
    omega
  have e : a ++ 46 :: (b ++ 46 :: (c ++ t)) = (a ++ 46 :: (b ++ 46 :: c)) ++ t := by simp
  obtain ⟨h5, h6⟩ := tw_app (p := fun x => !(x == (45 : UInt8))) (a ++ 46 :: (b ++ 46 :: c)) t (by
   intro x hx
   rcases List.mem_append.1 hx with hx | hx
   ·exact (hd x (num_dig k1 x hx)).1
   rcases List.mem_cons.1 hx with rfl | hx
   ·rfl
   rcases List.mem_append.1 hx with hx | hx
   ·exact (hd x (num_dig k2 x hx)).1
   rcases List.mem_cons.1 hx with rfl | hx
   ·rfl
   ·exact (hd x (num_dig k3 x hx)).1) ht
  refine ⟨a, b, c, ?_, k1, k2, k3, ?_⟩
  ·show splitB 46 (List.takeWhile _ _) = _
   rw [e, h5, splitB_yes 46 a _ (fun h => (hd 46 (num_dig k1 46 h)).2 rfl), splitB_yes 46 b _ (fun h => (hd 46 (num_dig k2 46 h)).2 rfl), splitB_no 46 c (fun h => (hd 46 (num_dig k3 46 h)).2 rfl)]
  ·show tailP (List.dropWhile _ _) = _
   rw [e, h6]
   exact h4
 ·rintro ⟨a, b, c, hs, k1, k2, k3, h4⟩
  have hj := splitB_jn (front r)
  rw [hs] at hj
  refine ⟨a, b, c, behind r, ?_, k1, k2, k3, h4⟩
  have := List.takeWhile_append_dropWhile (p := fun x => !(x == (45 : UInt8))) (l := r)
  conv => lhs; rw [← this]
  show front r ++ behind r = _
  rw [← hj]
  simp [jn]
namespace Z
set_option maxRecDepth 100000
def verR (l : List UInt8) : Int × Int × Int × ByteArray × Bool × Unit := match verP l with
 | some v => ((v.1 : Int), (v.2.1 : Int), (v.2.2.1 : Int), lit v.2.2.2, true, ())
 | none => (0, 0, 0, lit [], false, ())
theorem F104_is (s : ByteArray) (hs : s.size ≤ 1099511627776) : F104 (s, ()) = some (s, ()) := by
 have hl := bs_size s
 rw [F104_eq, F140_eq]
 by_cases h0 : s.size = 0
 ·rw [show (Int.ofNat s.size == Int.ofNat 0) = true by rw [h0]; rfl, cond_true, obs]
  have : s = lit [] := bs_inj (List.length_eq_zero_iff.1 (by omega))
  rw [this]
 ·rw [show (Int.ofNat s.size == Int.ofNat 0) = false by rw [← Bool.not_eq_true, beq_iff_eq]; intro h; exact h0 (by injection h), cond_false]
  have e1 : (decide (Int.ofNat 0 ≤ Int.ofNat s.size) && (decide (Int.ofNat s.size ≤ Int.ofNat s.size) && decide (Int.ofNat 1 * Int.ofNat s.size ≤ Int.ofNat 281474976710656) && decide (Int.ofNat s.size ≤ Int.ofNat 9223372036854775807))) = true := by
   simp only [Bool.and_eq_true, decide_eq_true_eq]
   refine ⟨Int.natCast_nonneg _, ⟨Int.le_refl _, ?_⟩, ?_⟩
   ·show (1 : Int) * (s.size : Int) ≤ 281474976710656; omega
   ·show (s.size : Int) ≤ 9223372036854775807; omega
  rw [e1, cond_true]
  have hn : (Int.ofNat s.size).toNat = s.size := rfl
  rw [hn, List.length_replicate, decide_eq_true (Nat.le_refl s.size), cond_true]
  have hd : List.drop s.size (List.replicate s.size (Int.ofNat 0)) = [] := by simp
  rw [hd, List.append_nil]
  have hm : List.map (fun b => Int.ofNat b.1.1.1) (bl s) = ib (bs s) := rfl
  rw [hm, ib_ok, beq_self_eq_true, Bool.and_self]
  have hlen : (ib (bs s)).length = s.size := by unfold ib; rw [List.length_map, hl]
  rw [hlen, decide_eq_true (show Int.ofNat 0 < Int.ofNat s.size by show (0 : Int) < (s.size : Int); omega), cond_true, cond_true, obs, bstr_ib, lit_bs]
theorem bt_lit1 (c : UInt8) : bt (lit [c]) (Int.ofNat 0) = ((c.toNat : Nat) : Int) := rfl
theorem F162_one (s : ByteArray) (c : UInt8) : F162 (s, lit [c], ()) = some (Lib.indexByte (bs s) c, ()) := by
 rw [F162_eq]
 have h1 : (Int.ofNat (ByteArray.size (lit [c])) == Int.ofNat 0) = false := rfl
 have h2 : (Int.ofNat (ByteArray.size (lit [c])) == Int.ofNat 1) = true := rfl
 have h3 : decide (Int.ofNat 0 < Int.ofNat (ByteArray.size (lit [c]))) = true := rfl
 rw [h1, h2, h3, F161_eq, xIndexByte_eq, bt_lit1, Int.toNat_natCast]
 have h4 : c.toNat.toUInt8 = c := UInt8.ofNat_toNat
 rw [h4]
 simp only [cond_false, cond_true, obs]
 cases hd : (bl (lit [c]) == bl s) with
 | false => rfl
 | true =>
  have : bl (lit [c]) = bl s := by simpa using hd
  rw [bs_toList, bs_toList] at this
  rw [← this, bs_lit]
  unfold Lib.indexByte
  rw [if_pos (by simp)]
  rfl
theorem F101_is (s : ByteArray) (hs : s.size ≤ 1099511627776) : F101 (s, (lit [45]), ()) = some (lit (front (bs s)), lit ((behind (bs s)).drop 1), !(behind (bs s)).isEmpty, ()) := by
 have hl := bs_size s
 rw [F101_eq, F138_eq, F162_one, obs, idx_tw]
 have happ := List.takeWhile_append_dropWhile (p := fun x => !(x == (45 : UInt8))) (l := bs s)
 by_cases hd : behind (bs s) = []
 ·have hd' : (bs s).dropWhile (fun x => !(x == (45 : UInt8))) = [] := hd
  rw [if_pos hd']
  rw [hd', List.append_nil] at happ
  have e : lit (front (bs s)) = s := bs_inj happ
  rw [e, hd]
  rfl
 ·have hd' : ¬ (bs s).dropWhile (fun x => !(x == (45 : UInt8))) = [] := hd
  rw [if_neg hd']
  have hk : (front (bs s)).length < (bs s).length := by
   have h1 := congrArg List.length happ
   rw [List.length_append] at h1
   have h2 := List.length_pos_iff.2 hd'
   show ((bs s).takeWhile _).length < _
   omega
  have h1 : front (bs s) = (bs s).take (front (bs s)).length := tw_take _ _
  have h2 : behind (bs s) = (bs s).drop (front (bs s)).length := dw_drop _ _
  rw [show ((bs s).takeWhile fun x => !(x == (45 : UInt8))).length = (front (bs s)).length from rfl]
  rw [show (!(behind (bs s)).isEmpty) = true by cases hb : behind (bs s) with | nil => exact absurd hb hd | cons x l => rfl]
  generalize hF : front (bs s) = f at *
  generalize hB : behind (bs s) = d at *
  have e1 : decide ((f.length : Int) ≥ Int.ofNat 0) = true := ge_zero _
  have e3 : IntKind.wrap IntKind.i64 ((f.length : Int) + Int.ofNat (ByteArray.size (lit [45]))) = ((f.length + 1 : Nat) : Int) := wrap64s f.length (by omega)
  have e4 : (decide (Int.ofNat 0 ≤ ((f.length + 1 : Nat) : Int)) && (decide (((f.length + 1 : Nat) : Int) ≤ Int.ofNat s.size) && decide (Int.ofNat s.size ≤ Int.ofNat s.size))) = true := by
   rw [ge_zero, Bool.true_and, Bool.and_eq_true, decide_eq_true_eq, decide_eq_true_eq]
   exact ⟨by show ((f.length + 1 : Nat) : Int) ≤ (s.size : Int); omega, Int.le_refl _⟩
  have e2' : decide ((f.length : Int) ≤ Int.ofNat s.size) = true := decide_eq_true (by show (f.length : Int) ≤ (s.size : Int); omega)
  simp only [e1, e2', e3, e4, cond_true, Bool.and_self, obs]
  refine congrArg some ?_
  have i1 : s.extract 0 (Int.toNat (f.length : Int)) = lit f := bs_inj (by rw [bs_extract, Int.toNat_natCast, List.drop_zero, bs_lit]; exact h1.symm)
  have i2 : s.extract (Int.toNat ((f.length + 1 : Nat) : Int)) (Int.toNat (Int.ofNat s.size)) = lit (d.drop 1) := bs_inj (by
   rw [bs_extract, Int.toNat_natCast, bs_lit]
   show ((bs s).take s.size).drop (f.length + 1) = _
   rw [hl, List.take_length, h2, List.drop_drop])
  rw [i1, i2]
theorem F106_is (s t : ByteArray) : F106 (s, t, ()) = some (decide (bs t <+: bs s), ()) := by
 rw [F106_eq]
 have hl := bs_size s
 have ht := bs_size t
 by_cases h : t.size ≤ s.size
 ·rw [show decide (Int.ofNat s.size ≥ Int.ofNat t.size) = true from decide_eq_true (by show (t.size : Int) ≤ (s.size : Int); omega), cond_true]
  rw [show decide (Int.ofNat 0 ≤ Int.ofNat t.size) = true from decide_eq_true (Int.natCast_nonneg _), Bool.and_self, cond_true]
  refine congrArg (fun z => some (z, ())) ?_
  have e3 : bl (s.extract 0 (Int.toNat (Int.ofNat t.size))) = (bs s).take t.size := by
   rw [bs_toList, bs_extract, List.drop_zero]; rfl
  rw [e3, bs_toList, Bool.eq_iff_iff, beq_iff_eq, decide_eq_true_eq, ht]
  constructor
  ·intro h; rw [← h]; exact List.take_prefix _ _
  ·intro h; exact (List.prefix_iff_eq_take.1 h).symm
 ·rw [show decide (Int.ofNat s.size ≥ Int.ofNat t.size) = false from decide_eq_false (by show ¬ (t.size : Int) ≤ (s.size : Int); omega), cond_false]
  refine congrArg (fun z => some (z, ())) (decide_eq_false ?_).symm
  intro hp
  have := hp.length_le
  omega
theorem pre_one (c : UInt8) (l : List UInt8) : ([c] <+: l) = (l.head? = some c) := by
 apply propext
 cases l with
 | nil => simp
 | cons x l => simp [List.cons_prefix_cons]; exact eq_comm
theorem F100_is (s : ByteArray) : F100 (s, (lit [118]), ()) = some (if (bs s).head? = some 118 then s.extract 1 s.size else s, decide ((bs s).head? = some 118), ()) := by
 rw [F100_eq, F137_eq, F106_is, obs, bs_lit]
 have hp := pre_one 118 (bs s)
 by_cases h : (bs s).head? = some 118
 ·rw [if_pos h, decide_eq_true h, decide_eq_true (hp ▸ h)]
  have hl := bs_size s
  have hpos : 1 ≤ s.size := by
   cases hb : bs s with
   | nil => rw [hb] at h; cases h
   | cons x l => rw [hl, hb]; simp
  have e : (decide (Int.ofNat 0 ≤ Int.ofNat (ByteArray.size (lit [118]))) && (decide (Int.ofNat (ByteArray.size (lit [118])) ≤ Int.ofNat s.size) && decide (Int.ofNat s.size ≤ Int.ofNat s.size))) = true := by
   simp only [Bool.and_eq_true, decide_eq_true_eq]
   exact ⟨by decide, by show (1 : Int) ≤ (s.size : Int); omega, Int.le_refl _⟩
  simp only [Bool.not_true, cond_false, e, cond_true, obs]
  rfl
 ·rw [if_neg h, decide_eq_false h, decide_eq_false (hp ▸ h)]
  rfl
theorem B80_is (pre : ByteArray) (x y z : ByteArray) (w : ByteArray) (r : Sum (Bool × Int × Int × Int × ByteArray × Unit) (ByteArray × Int × Int × Int × ByteArray × Int × Int × Int × ByteArray × Unit))
  (hr : r = match numOf (bs x), numOf (bs y), numOf (bs z) with
   | some a, some b, some c => .inr (pre, 0, 0, 0, lit [], (a : Int), (b : Int), (c : Int), lit [], ())
   | _, _, _ => .inl (false, 0, 0, 0, lit [], ())) :
  loop B80_0 (pre, [x, y, z], Int.ofNat 3, Int.ofNat 0, Int.ofNat 0, Int.ofNat 0, Int.ofNat 0, (lit []), Int.ofNat 0, Int.ofNat 0, Int.ofNat 0, (lit []), ()) = some r := by
 cases hx : numOf (bs x) with
 | none =>
  rw [hx] at hr
  rw [hr]
  refine loop_end ?_
  rw [B80_0_eq]
  simp only [show decide (Int.ofNat 0 < Int.ofNat 3) = true from rfl, show (Int.ofNat 0 == Int.ofNat 0) = true from rfl, show decide (Int.ofNat 0 ≤ Int.ofNat 0) = true from rfl, cond_true, show [x, y, z][Int.toNat (Int.ofNat 0)]? = some x from rfl, obs, F103_is]
  unfold numR
  rw [hx]
  rfl
 | some a =>
  rw [hx] at hr
  refine loop_step (q := (pre, [x, y, z], Int.ofNat 3, Int.ofNat 1, Int.ofNat 0, Int.ofNat 0, Int.ofNat 0, (lit []), (a : Int), Int.ofNat 0, Int.ofNat 0, (lit []), ())) ?_ ?_
  ·rw [B80_0_eq]
   simp only [show decide (Int.ofNat 0 < Int.ofNat 3) = true from rfl, show (Int.ofNat 0 == Int.ofNat 0) = true from rfl, show decide (Int.ofNat 0 ≤ Int.ofNat 0) = true from rfl, cond_true, show [x, y, z][Int.toNat (Int.ofNat 0)]? = some x from rfl, obs, F103_is]
   unfold numR
   rw [hx]
   rfl
  ·cases hy : numOf (bs y) with
   | none =>
    rw [hy] at hr
    rw [hr]
    refine loop_end ?_
    rw [B80_0_eq]
    simp only [show decide (Int.ofNat 1 < Int.ofNat 3) = true from rfl, show (Int.ofNat 1 == Int.ofNat 0) = false from rfl, show (Int.ofNat 1 == Int.ofNat 1) = true from rfl, show decide (Int.ofNat 0 ≤ Int.ofNat 1) = true from rfl, cond_true, cond_false, show [x, y, z][Int.toNat (Int.ofNat 1)]? = some y from rfl, obs, F103_is]
    unfold numR
    rw [hy]
    rfl
   | some b =>
    rw [hy] at hr
    refine loop_step (q := (pre, [x, y, z], Int.ofNat 3, Int.ofNat 2, Int.ofNat 0, Int.ofNat 0, Int.ofNat 0, (lit []), (a : Int), (b : Int), Int.ofNat 0, (lit []), ())) ?_ ?_
    ·rw [B80_0_eq]
     simp only [show decide (Int.ofNat 1 < Int.ofNat 3) = true from rfl, show (Int.ofNat 1 == Int.ofNat 0) = false from rfl, show (Int.ofNat 1 == Int.ofNat 1) = true from rfl, show decide (Int.ofNat 0 ≤ Int.ofNat 1) = true from rfl, cond_true, cond_false, show [x, y, z][Int.toNat (Int.ofNat 1)]? = some y from rfl, obs, F103_is]
     unfold numR
     rw [hy]
     rfl
    ·cases hz : numOf (bs z) with
     | none =>
      rw [hz] at hr
      rw [hr]
      refine loop_end ?_
      rw [B80_0_eq]
      simp only [show decide (Int.ofNat 2 < Int.ofNat 3) = true from rfl, show (Int.ofNat 2 == Int.ofNat 0) = false from rfl, show (Int.ofNat 2 == Int.ofNat 1) = false from rfl, show (Int.ofNat 2 == Int.ofNat 2) = true from rfl, show decide (Int.ofNat 0 ≤ Int.ofNat 2) = true from rfl, cond_true, cond_false, show [x, y, z][Int.toNat (Int.ofNat 2)]? = some z from rfl, obs, F103_is]
      unfold numR
      rw [hz]
      rfl
     | some c =>
      rw [hz] at hr
      rw [hr]
      refine loop_step (q := (pre, [x, y, z], Int.ofNat 3, Int.ofNat 3, Int.ofNat 0, Int.ofNat 0, Int.ofNat 0, (lit []), (a : Int), (b : Int), (c : Int), (lit []), ())) ?_ (loop_end ?_)
      ·rw [B80_0_eq]
       simp only [show decide (Int.ofNat 2 < Int.ofNat 3) = true from rfl, show (Int.ofNat 2 == Int.ofNat 0) = false from rfl, show (Int.ofNat 2 == Int.ofNat 1) = false from rfl, show (Int.ofNat 2 == Int.ofNat 2) = true from rfl, show decide (Int.ofNat 0 ≤ Int.ofNat 2) = true from rfl, cond_true, cond_false, show [x, y, z][Int.toNat (Int.ofNat 2)]? = some z from rfl, obs, F103_is]
       unfold numR
       rw [hz]
       rfl
      ·rw [B80_0_eq]
       rfl
theorem verP_cons (r : List UInt8) : verP (118 :: r) = (scanV r).bind fun v => if rightB v.1 v.2.1 v.2.2.1 v.2.2.2 = true then some v else none := by
 show (if (118 : UInt8) = 118 then _ else none) = _
 exact if_pos rfl
theorem verP_no {l : List UInt8} (h : ¬ l.head? = some 118) : verP l = none := by
 cases l with
 | nil => rfl
 | cons x r =>
  show (if x = 118 then _ else none) = _
  rw [if_neg (by intro hx; exact h (by rw [hx]; rfl))]
theorem F80_is (s : ByteArray) (hs : s.size ≤ 1099511627000) : F80 (s, ()) = some (verR (bs s)) := by
 have hl := bs_size s
 rw [F80_eq, F100_is, obs]
 by_cases hh : (bs s).head? = some 118
 ·rw [if_pos hh, decide_eq_true hh]
  obtain ⟨r, hr⟩ : ∃ r, bs s = 118 :: r := by
   cases hb : bs s with
   | nil => rw [hb] at hh; cases hh
   | cons x r => rw [hb] at hh; injection hh with hh; exact ⟨r, by rw [hh]⟩
  have he : bs (s.extract 1 s.size) = r := by rw [bs_extract, hl, List.take_length, hr]; rfl
  generalize s.extract 1 s.size = u at *
  have hu : u.size ≤ 1099511627000 := by rw [bs_size, he]; rw [hr] at hl; simp at hl; omega
  simp only
  rw [F101_is u (by omega), obs, he]
  simp only
  have hfs : (lit (front r)).size ≤ 1099511627000 := by
   have h1 := tw_len (fun x => !(x == (45 : UInt8))) r
   have h2 := bs_size u
   rw [he] at h2
   show (front r).length ≤ _
   show (r.takeWhile _).length ≤ _
   omega
  have h102 : F102 (lit (front r), (lit [46]), ()) = some (splitDot (lit (front r)), ()) := F102_dot _ (by omega)
  rw [h102, obs]
  unfold splitDot
  rw [bs_lit]
  unfold verR
  rw [hr, verP_cons]
  have hiff := fun v => (scanV_iff (r := r) (v := v)).trans split_iff
  simp only [Bool.not_true, cond_false, List.length_map]
  have hbeh : (behind r).length ≤ r.length := by
   have h1 := List.takeWhile_append_dropWhile (p := fun x => !(x == (45 : UInt8))) (l := r)
   have h2 := congrArg List.length h1
   rw [List.length_append] at h2
   show (r.dropWhile _).length ≤ _
   omega
  by_cases h3 : (splitB 46 (front r)).length = 3
  ·rw [h3]
   simp only [show (Int.ofNat 3 == Int.ofNat 3) = true from rfl, Bool.not_true, cond_false]
   obtain ⟨a, b, c, habc⟩ : ∃ a b c, splitB 46 (front r) = [a, b, c] := by
    generalize splitB 46 (front r) = l at h3
    match l, h3 with
    | [a, b, c], _ => exact ⟨a, b, c, rfl⟩
   rw [habc] at hiff ⊢
   simp only [List.cons.injEq, and_true] at hiff
   have hiff2 : ∀ v, scanV r = some v ↔ numOf a = some v.1 ∧ numOf b = some v.2.1 ∧ numOf c = some v.2.2.1 ∧ tailP (behind r) = some v.2.2.2 := fun v => (hiff v).trans ⟨by rintro ⟨a', b', c', ⟨rfl, rfl, rfl⟩, h⟩; exact h, fun h => ⟨a, b, c, ⟨rfl, rfl, rfl⟩, h⟩⟩
   -- what is behind the mark
   have key : ∀ (pre : List UInt8), tailP (behind r) = some pre → lit ((behind r).drop 1) = lit pre →
     (Option.bind (loop B80_0 (lit ((behind r).drop 1), List.map lit [a, b, c], Int.ofNat 3, Int.ofNat 0, Int.ofNat 0, Int.ofNat 0, Int.ofNat 0, (lit []), Int.ofNat 0, Int.ofNat 0, Int.ofNat 0, (lit []), ())) fun r => Sum.elim (fun p => some (p.2.1, p.2.2.1, p.2.2.2.1, p.2.2.2.2.1, p.1, ())) (fun p => Option.bind (F104 (p.1, ())) fun r => Option.bind (F105 (p.2.2.2.2.2.1, p.2.2.2.2.2.2.1, p.2.2.2.2.2.2.2.1, r.1, ())) fun r_3 => bif !r_3.1 then some (Int.ofNat 0, Int.ofNat 0, Int.ofNat 0, (lit []), false, ()) else some (p.2.2.2.2.2.1, p.2.2.2.2.2.2.1, p.2.2.2.2.2.2.2.1, r.1, true, ())) r) = some (match ((scanV r).bind fun v => if rightB v.1 v.2.1 v.2.2.1 v.2.2.2 = true then some v else none : Option (Nat × Nat × Nat × List UInt8)) with
      | some v => ((v.1 : Int), (v.2.1 : Int), (v.2.2.1 : Int), lit v.2.2.2, true, ())
      | none => (0, 0, 0, lit [], false, ())) := by
    intro pre hp hlp
    have hps : (lit pre).size ≤ 1099511627776 := by
     rw [← hlp]
     show ((behind r).drop 1).length ≤ _
     rw [List.length_drop]
     rw [hr] at hl
     simp only [List.length_cons] at hl
     omega
    rw [hlp]
    rw [show List.map lit [a, b, c] = [lit a, lit b, lit c] from rfl, B80_is (lit pre) (lit a) (lit b) (lit c) (lit []) _ rfl, obs]
    simp only [bs_lit]
    have hno : (numOf a = none ∨ numOf b = none ∨ numOf c = none) → scanV r = none := by
     intro h
     cases hv : scanV r with
     | none => rfl
     | some v =>
      obtain ⟨k1, k2, k3, _⟩ := (hiff2 v).1 hv
      rcases h with h | h | h
      ·rw [h] at k1; cases k1
      ·rw [h] at k2; cases k2
      ·rw [h] at k3; cases k3
    cases ha : numOf a with
    | none => rw [hno (.inl ha)]; rfl
    | some A =>
    cases hb : numOf b with
    | none => rw [hno (.inr (.inl hb))]; rfl
    | some B =>
    cases hc : numOf c with
    | none => rw [hno (.inr (.inr hc))]; rfl
    | some C =>
     have hv := (hiff2 (A, B, C, pre)).2 ⟨ha, hb, hc, hp⟩
     rw [hv]
     simp only [Sum.elim_inr, Option.bind_some]
     rw [F104_is _ hps, obs, F105_is, obs, bs_lit]
     cases hrt : rightB A B C pre with
     | false => rfl
     | true => rfl
   cases hb : behind r with
   | nil =>
    have hp : tailP (behind r) = some [] := by rw [hb]; rfl
    have := key [] hp (by rw [hb]; rfl)
    rw [hb] at this
    exact this
   | cons x t =>
    simp only [List.isEmpty_cons, Bool.not_false, cond_true]
    have hx : x = 45 := by
     have := dw_head r x t hb
     simpa using this
    rw [nil_bs, bs_lit, show (x :: t).drop 1 = t from rfl]
    by_cases ht : t = []
    ·rw [decide_eq_true ht, cond_true]
     have : scanV r = none := by
      cases hv : scanV r with
      | none => rfl
      | some v =>
       obtain ⟨_, _, _, k4⟩ := (hiff2 v).1 hv
       rw [hb, ht, tailP_cons, if_neg (fun h => h.2 rfl)] at k4
       cases k4
     rw [this]
     rfl
    ·rw [decide_eq_false ht, cond_false]
     have hp : tailP (behind r) = some t := by
      rw [hb, tailP_cons, if_pos ⟨hx, ht⟩]
     have := key t hp (by rw [hb]; rfl)
     rw [hb] at this
     exact this
  ·have : scanV r = none := by
    cases hv : scanV r with
    | none => rfl
    | some v =>
     obtain ⟨a, b, c, h, _⟩ := (hiff v).1 hv
     rw [h] at h3
     exact absurd rfl h3
   rw [this]
   have h4 : (Int.ofNat (splitB 46 (front r)).length == Int.ofNat 3) = false := by
    rw [← Bool.not_eq_true, beq_iff_eq]
    intro h
    exact h3 (by injection h)
   rw [h4]
   rfl
 ·rw [if_neg hh, decide_eq_false hh]
  simp only
  have hfs : (lit (front (bs s))).size ≤ 1099511627776 := by
   have h1 := tw_len (fun x => !(x == (45 : UInt8))) (bs s)
   show ((bs s).takeWhile _).length ≤ _
   omega
  have h102 : F102 (lit (front (bs s)), (lit [46]), ()) = some (splitDot (lit (front (bs s))), ()) := F102_dot _ hfs
  rw [F101_is s (by omega), obs]
  simp only
  rw [h102, obs]
  unfold verR
  rw [verP_no hh]
  rfl
end Z
end Go.Vx
/-! The document's ver.Parse. -/
namespace Go.Vx.Z
open Go Go.Vx
set_option linter.unusedVariables false
set_option maxRecDepth 100000
theorem B37_0_is (s : ByteArray) (hs : s.size ≤ 1099511627776) (j : Nat) (hj : j ≤ s.size) (x2 x3 : Int) (x4 : ByteArray) (x5 x6 x7 x8 : Int) (x9 : Bool) (x10 x11 x12 : Int) (x13 : ByteArray) (x14 x15 x16 : Int) :
  loop B37_0 (s, (j : Int), x2, x3, x4, x5, x6, x7, x8, x9, x10, x11, x12, x13, x14, x15, x16, ()) = some (s, ((j + (((bs s).drop j).takeWhile dig1).length : Nat) : Int), x2, x3, x4, x5, x6, x7, x8, x9, x10, x11, x12, x13, x14, x15, x16, ()) := by
 have hl := bs_size s
 exact scan (B := B37_0) (bs s) dig1 (fun j => (s, (j : Int), x2, x3, x4, x5, x6, x7, x8, x9, x10, x11, x12, x13, x14, x15, x16, ())) (fun j => (s, (j : Int), x2, x3, x4, x5, x6, x7, x8, x9, x10, x11, x12, x13, x14, x15, x16, ())) (fun i h hp => by
  have hlt : i < s.size := by omega
  rw [B37_0_eq]
  simp only [lt_in hlt, ge_zero, Bool.and_self, cond_true, bt_eq s i hlt, wrap_next hlt (by omega)]
  rw [F62_is, obs, hp]
  rfl) (fun i h hp => by
  have hlt : i < s.size := by omega
  rw [B37_0_eq]
  simp only [lt_in hlt, ge_zero, Bool.and_self, cond_true, bt_eq s i hlt]
  rw [F62_is, obs, hp]
  rfl) (by
  rw [B37_0_eq]
  simp only [← hl, lt_out, cond_false]) j (by omega)
theorem u8_beq (a b : UInt8) : (((a.toNat : Nat) : Int) == ((b.toNat : Nat) : Int)) = (a == b) := by
 rw [Bool.eq_iff_iff, beq_iff_eq, beq_iff_eq]
 exact ⟨fun h => UInt8.toNat_inj.1 (by omega), fun h => by rw [h]⟩
def put (i : Nat) (n : Int) (t : Int × Int × Int) : Int × Int × Int := if i = 0 then (n, t.2.1, t.2.2) else if i = 1 then (t.1, n, t.2.2) else (t.1, t.2.1, n)
theorem B37_1_step (s : ByteArray) (hs : s.size ≤ 1099511627000) (i : Nat) (hi : i < 3) (j : Nat) (hj : j ≤ s.size) (c : UInt8) (hc : bt (lit [118, 46, 46]) (i : Int) = ((c.toNat : Nat) : Int)) (x3 x4 x5 : Int) (x6 : ByteArray) (t : Int × Int × Int) :
  (sepN c ((bs s).drop j) = none ∧ B37_1 (s, (j : Int), (i : Int), x3, x4, x5, x6, t.1, t.2.1, t.2.2, ()) = some (.inr (.inl (false, 0, 0, 0, lit [], ())))) ∨
  (∃ n j', sepN c ((bs s).drop j) = some (n, (bs s).drop j') ∧ j' ≤ s.size ∧ B37_1 (s, (j : Int), (i : Int), x3, x4, x5, x6, t.1, t.2.1, t.2.2, ()) = some (.inl (s, (j' : Int), ((i + 1 : Nat) : Int), x3, x4, x5, x6, (put i (n : Int) t).1, (put i (n : Int) t).2.1, (put i (n : Int) t).2.2, ()))) := by
 have hl := bs_size s
 have e3 : decide ((i : Int) < Int.ofNat 3) = true := lt_in hi
 by_cases hend : j = s.size
 ·left
  rw [hend, hl, List.drop_length]
  refine ⟨rfl, ?_⟩
  rw [B37_1_eq, e3, cond_true, show decide ((((bs s).length : Nat) : Int) ≥ Int.ofNat s.size) = true from decide_eq_true (by show (s.size : Int) ≤ _; omega), cond_true]
  rfl
 ·have hlt : j < s.size := by omega
  have hlt' : j < (bs s).length := by omega
  rw [List.drop_eq_getElem_cons hlt']
  have hb := bt_eq s j hlt
  generalize hd : (bs s)[j] = d at *
  rw [B37_1_eq, e3, cond_true, show decide ((j : Int) ≥ Int.ofNat s.size) = false from decide_eq_false (by show ¬ (s.size : Int) ≤ _; omega), cond_false, lt_in hlt, ge_zero, ge_zero]
  simp only [Bool.and_self, cond_true]
  rw [hb, hc, u8_beq]
  by_cases hx : d = c
  ·subst hx
   have hw : IntKind.wrap IntKind.i64 ((j : Int) + Int.ofNat 1) = ((j + 1 : Nat) : Int) := wrap_next hlt (by omega)
   simp only [beq_self_eq_true, Bool.not_true, cond_false, hw]
   rw [B37_0_is s (by omega) (j + 1) (by omega), obs]
   simp only
   have htl := tw_len dig1 ((bs s).drop (j + 1))
   rw [List.length_drop] at htl
   have hk : ((bs s).drop (j + 1)).takeWhile dig1 = ((bs s).drop (j + 1)).take (((bs s).drop (j + 1)).takeWhile dig1).length := tw_take _ _
   have hk2 : ((bs s).drop (j + 1)).dropWhile dig1 = ((bs s).drop (j + 1)).drop (((bs s).drop (j + 1)).takeWhile dig1).length := dw_drop _ _
   have hsep : sepN d (d :: (bs s).drop (j + 1)) = (numOf (((bs s).drop (j + 1)).takeWhile dig1)).map fun n => (n, ((bs s).drop (j + 1)).dropWhile dig1) := by
    show (if d = d then scanN _ else none) = _
    rw [if_pos rfl]
    rfl
   rw [hsep]
   generalize hT : ((bs s).drop (j + 1)).takeWhile dig1 = T at *
   have e4 : (decide (Int.ofNat 0 ≤ ((j + 1 : Nat) : Int)) && (decide (((j + 1 : Nat) : Int) ≤ ((j + 1 + T.length : Nat) : Int)) && decide (((j + 1 + T.length : Nat) : Int) ≤ Int.ofNat s.size))) = true := by
    rw [ge_zero, Bool.true_and, Bool.and_eq_true, decide_eq_true_eq, decide_eq_true_eq]
    exact ⟨by omega, by show _ ≤ (s.size : Int); omega⟩
   have e5 : bs (s.extract (j + 1) (j + 1 + T.length)) = T := by
    rw [bs_extract, List.drop_take, show j + 1 + T.length - (j + 1) = T.length by omega]
    exact hk.symm
   rw [e4, cond_true, F63_is, Int.toNat_natCast, Int.toNat_natCast, e5, obs]
   unfold numR
   cases hn : numOf T with
   | none => left; exact ⟨rfl, rfl⟩
   | some n =>
    right
    refine ⟨n, j + 1 + T.length, ?_, by omega, ?_⟩
    ·rw [Option.map_some, hk2, List.drop_drop]
    ·simp only [Bool.not_true, cond_false]
     match i, hi with
     | 0, _ => rfl
     | 1, _ => rfl
     | 2, _ => rfl
  ·left
   refine ⟨if_neg hx, ?_⟩
   rw [show (d == c) = false by simpa using hx]
   rfl
theorem verP_eq (l : List UInt8) : verP l = (sepN 118 l).bind fun a => (sepN 46 a.2).bind fun b => (sepN 46 b.2).bind fun c => (tailP c.2).bind fun p => if rightB a.1 b.1 c.1 p = true then some (a.1, b.1, c.1, p) else none := by
 cases l with
 | nil => rfl
 | cons x r =>
  show (if x = 118 then (scanV r).bind _ else none) = (if x = 118 then scanN r else none).bind _
  by_cases hx : x = 118
  ·rw [if_pos hx, if_pos hx]
   unfold scanV
   cases scanN r with
   | none => rfl
   | some a =>
   simp only [Option.bind_some]
   cases sepN 46 a.2 with
   | none => rfl
   | some b =>
   simp only [Option.bind_some]
   cases sepN 46 b.2 with
   | none => rfl
   | some c =>
   simp only [Option.bind_some]
   cases tailP c.2 <;> rfl
  ·rw [if_neg hx, if_neg hx]
   rfl
theorem F37_is (s : ByteArray) (hs : s.size ≤ 1099511627000) : F37 (s, ()) = some (verR (bs s)) := by
 have hl := bs_size s
 rw [F37_eq]
 unfold verR
 rw [verP_eq]
 rcases B37_1_step s hs 0 (by omega) 0 (Nat.zero_le _) 118 rfl 0 0 0 (lit []) (0, 0, 0) with ⟨h1, h2⟩ | ⟨n0, j0, h1, hj0, h2⟩
 ·rw [List.drop_zero] at h1
  have h0 : loop B37_1 (s, Int.ofNat 0, Int.ofNat 0, Int.ofNat 0, Int.ofNat 0, Int.ofNat 0, lit [], Int.ofNat 0, Int.ofNat 0, Int.ofNat 0, ()) = _ := loop_end h2
  rw [h0, h1]
  rfl
 rw [List.drop_zero] at h1
 rw [h1]
 rcases B37_1_step s hs 1 (by omega) j0 hj0 46 rfl 0 0 0 (lit []) ((n0 : Int), 0, 0) with ⟨h3, h4⟩ | ⟨n1, j1, h3, hj1, h4⟩
 ·have h0 : loop B37_1 (s, Int.ofNat 0, Int.ofNat 0, Int.ofNat 0, Int.ofNat 0, Int.ofNat 0, lit [], Int.ofNat 0, Int.ofNat 0, Int.ofNat 0, ()) = _ := loop_step h2 (loop_end h4)
  rw [h0]
  simp only [Option.bind_some, h3]
  rfl
 rcases B37_1_step s hs 2 (by omega) j1 hj1 46 rfl 0 0 0 (lit []) ((n0 : Int), (n1 : Int), 0) with ⟨h5, h6⟩ | ⟨n2, j2, h5, hj2, h6⟩
 ·have h0 : loop B37_1 (s, Int.ofNat 0, Int.ofNat 0, Int.ofNat 0, Int.ofNat 0, Int.ofNat 0, lit [], Int.ofNat 0, Int.ofNat 0, Int.ofNat 0, ()) = _ := loop_step h2 (loop_step h4 (loop_end h6))
  rw [h0]
  simp only [Option.bind_some, h3, h5]
  rfl
 have hend : B37_1 (s, (j2 : Int), ((2 + 1 : Nat) : Int), 0, 0, 0, lit [], (n0 : Int), (n1 : Int), (n2 : Int), ()) = some (.inr (.inr (s, (j2 : Int), 0, 0, 0, lit [], (n0 : Int), (n1 : Int), (n2 : Int), ()))) := by
  rw [B37_1_eq]
  rfl
 have h0 : loop B37_1 (s, Int.ofNat 0, Int.ofNat 0, Int.ofNat 0, Int.ofNat 0, Int.ofNat 0, lit [], Int.ofNat 0, Int.ofNat 0, Int.ofNat 0, ()) = _ := loop_step h2 (loop_step h4 (loop_step h6 (loop_end hend)))
 rw [h0, obs]
 simp only [Option.bind_some, h3, h5, Sum.elim_inr]
 by_cases hj : j2 = s.size
 ·rw [show decide ((j2 : Int) < Int.ofNat s.size) = false from decide_eq_false (by show ¬ (j2 : Int) < (s.size : Int); omega), cond_false, F64_is, obs]
  rw [show (bs s).drop j2 = [] by rw [hj, hl, List.drop_length]]
  show (bif !rightB n0 n1 n2 [] then _ else _) = some (match (if rightB n0 n1 n2 [] = true then some (n0, n1, n2, []) else none : Option (Nat × Nat × Nat × List UInt8)) with | some v => _ | none => _)
  cases rightB n0 n1 n2 [] <;> rfl
 ·have hlt : j2 < s.size := by omega
  have hlt' : j2 < (bs s).length := by omega
  have hb := bt_eq s j2 hlt
  rw [lt_in hlt, ge_zero, hb, List.drop_eq_getElem_cons hlt']
  simp only [Bool.and_self, cond_true]
  generalize (bs s)[j2] = d at *
  have h45 : (((d.toNat : Nat) : Int) == Int.ofNat 45) = (d == 45) := u8_beq d 45
  rw [h45]
  have hw : IntKind.wrap IntKind.i64 ((j2 : Int) + Int.ofNat 1) = ((j2 + 1 : Nat) : Int) := wrap_next hlt (by omega)
  rw [hw, tailP_cons]
  by_cases hd : d = 45
  ·subst hd
   rw [show ((45 : UInt8) == 45) = true from rfl, Bool.not_true, cond_false]
   by_cases hj3 : j2 + 1 = s.size
   ·rw [show (((j2 + 1 : Nat) : Int) == Int.ofNat s.size) = true by rw [beq_iff_eq]; show _ = (s.size : Int); omega, cond_true]
    rw [show (bs s).drop (j2 + 1) = [] by rw [hj3, hl, List.drop_length]]
    rfl
   ·rw [show (((j2 + 1 : Nat) : Int) == Int.ofNat s.size) = false by rw [← Bool.not_eq_true, beq_iff_eq]; show ¬ _ = (s.size : Int); omega, cond_false]
    have e4 : (decide (Int.ofNat 0 ≤ ((j2 + 1 : Nat) : Int)) && (decide (((j2 + 1 : Nat) : Int) ≤ Int.ofNat s.size) && decide (Int.ofNat s.size ≤ Int.ofNat s.size))) = true := by
     rw [ge_zero, Bool.true_and, Bool.and_eq_true, decide_eq_true_eq, decide_eq_true_eq]
     exact ⟨by show _ ≤ (s.size : Int); omega, Int.le_refl _⟩
    have hne : (bs s).drop (j2 + 1) ≠ [] := by
     intro h
     have := congrArg List.length h
     rw [List.length_drop] at this
     simp only [List.length_nil] at this
     omega
    have i2 : s.extract (Int.toNat ((j2 + 1 : Nat) : Int)) (Int.toNat (Int.ofNat s.size)) = lit ((bs s).drop (j2 + 1)) := bs_inj (by
     rw [bs_extract, Int.toNat_natCast, bs_lit]
     show ((bs s).take s.size).drop (j2 + 1) = _
     rw [hl, List.take_length])
    rw [e4, cond_true, i2, F64_is, obs, bs_lit]
    rw [if_pos (show (45 : UInt8) = 45 ∧ (bs s).drop (j2 + 1) ≠ [] from ⟨rfl, hne⟩), Option.bind_some]
    cases rightB n0 n1 n2 ((bs s).drop (j2 + 1)) <;> rfl
  ·rw [show (d == 45) = false by simpa using hd, Bool.not_false, cond_true]
   rw [if_neg (fun h => hd h.1)]
   rfl
end Go.Vx.Z
