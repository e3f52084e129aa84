import Derived.Test.YtildhhdbikpbaaaGreatDoorV3
import Derived.Lib.Bytealg
import Derived.Sort.Statements
import Derived.Test.YtildhhdbikpbaaaGreatDoorV2
import Derived.Shelf.SlSortCmp.WholeK
import Init.Data.List.Sort
import Derived.Shelf.SlSortCmp.NoneTotal
set_option linter.unusedSimpArgs false
namespace Go.Vx.Z
open _root_.Int (ofNat toNat)
open IntKind (wrap)
open _root_.ByteArray (size)
open _root_.List (length)
open _root_.Sum (inl inr elim)
open Go Go.Vx Go.Proofs
set_option linter.unusedVariables false
set_option maxRecDepth 1000000
set_option maxHeartbeats 4000000
theorem B39_0_eq (x0 : List R7) (x1 x2 : Int) (x3 : List R8) : B39_0 (x0, x1, x2, x3, ()) =
 bif decide (x2 < x1) then bif decide (ofNat 0 ≤ x2) then Option.bind x0[toNat x2]? fun y => bif y.2.2.2.2.2.2.2.2.2.2.1 then bif decide (length x3 + length [(y.1, y.2.1, y.2.2.1, y.2.2.2.1, y.2.2.2.2.2.2.2.2.1, false, ofNat 0, ofNat 0, ofNat 0, (lit []), false, true, ())] ≤ 1466015503701) then some (inl (x0, x1, wrap .i64 (x2 + ofNat 1), x3 ++ [(y.1, y.2.1, y.2.2.1, y.2.2.2.1, y.2.2.2.2.2.2.2.2.1, false, ofNat 0, ofNat 0, ofNat 0, (lit []), false, true, ())], ())) else none else bif decide (length x3 + length [(y.1, y.2.1, y.2.2.1, y.2.2.2.1, y.2.2.2.2.2.2.2.2.1, false, y.2.2.2.2.1, y.2.2.2.2.2.1, y.2.2.2.2.2.2.1, y.2.2.2.2.2.2.2.1, y.2.2.2.2.2.2.2.2.2.1, false, ())] ≤ 1466015503701) then some (inl (x0, x1, wrap .i64 (x2 + ofNat 1), x3 ++ [(y.1, y.2.1, y.2.2.1, y.2.2.2.1, y.2.2.2.2.2.2.2.2.1, false, y.2.2.2.2.1, y.2.2.2.2.2.1, y.2.2.2.2.2.2.1, y.2.2.2.2.2.2.2.1, y.2.2.2.2.2.2.2.2.2.1, false, ())], ())) else none else none else some (inr (x3, ())) := by kernel_rfl
theorem F39_eq (x0 : List R7) : F39 (x0, ()) =
 Option.bind (loop B39_0 (x0, ofNat (length x0), ofNat 0, [], ())) fun r => some (r.1, ()) := by kernel_rfl
theorem B66_0_eq (x0 : Int) (x1 : List Int) (x2 x3 : Int) : B66_0 (x0, x1, x2, x3, ()) =
 bif decide (x3 < x2) then bif decide (ofNat 0 ≤ x3) then Option.bind x1[toNat x3]? fun y => bif !y == x0 then some (inr (inl (y, ()))) else some (inl (x0, x1, x2, wrap .i64 (x3 + ofNat 1), ())) else none else some (inr (inr (x0, ()))) := by kernel_rfl
theorem F66_eq (x0 : List Int) : F66 (x0, ()) =
 Option.bind (loop B66_0 (ofNat 0, x0, ofNat (length x0), ofNat 0, ())) fun r => elim (fun p => some (p.1, ())) (fun p => some (p.1, ())) r := by kernel_rfl
theorem F113_eq (x0 : Int) : F113 (x0, ()) =
 some (!x0 == x0, ()) := by kernel_rfl
theorem F92_eq (x0 x1 : Int) : F92 (x0, x1, ()) =
 Option.bind (F113 (x0, ())) fun r => Option.bind (F113 (x1, ())) fun r_1 => bif r.1 then bif r_1.1 then some (ofNat 0, ()) else some (Int.negSucc 0, ()) else bif r_1.1 then some (ofNat 1, ()) else bif decide (x0 < x1) then some (Int.negSucc 0, ()) else bif decide (x0 > x1) then some (ofNat 1, ()) else some (ofNat 0, ()) := by kernel_rfl
theorem F161_eq (x0 : ByteArray) (x1 : Int) : F161 (x0, x1, ()) =
 some (xIndexByte x0 x1, ()) := by kernel_rfl
theorem F162_eq (x0 x1 : ByteArray) : F162 (x0, x1, ()) =
 bif ofNat (size x1) == ofNat 0 then some (ofNat 0, ()) else bif bl x1 == bl x0 then some (ofNat 0, ()) else bif ofNat (size x1) == ofNat 1 then bif decide (ofNat 0 < ofNat (size x1)) then Option.bind (F161 (x0, bt x1 (ofNat 0), ())) fun r => some (r.1, ()) else none else bif decide (ofNat (size x1) ≥ ofNat (size x0)) then some (Int.negSucc 0, ()) else none := by kernel_rfl
theorem F165_eq (x0 x1 : ByteArray) : F165 (x0, x1, ()) =
 Option.bind (F162 (x0, x1, ())) fun r => some (r.1, ()) := by kernel_rfl
theorem F164_eq (x0 x1 : ByteArray) : F164 (x0, x1, ()) =
 bif ofNat (size x1) == ofNat 0 then Option.bind (F176 (x0, ())) fun r => some (wrap .i64 (r.1 + ofNat 1), ()) else bif ofNat (size x1) == ofNat 1 then bif decide (ofNat 0 < ofNat (size x1)) then some (xCount x0 (bt x1 (ofNat 0)), ()) else none else Option.bind (loop B164_0 (x0, x1, ofNat 0, ())) fun r => some (r.1, ()) := by kernel_rfl
theorem B139_0_eq (x0 x1 : ByteArray) (x2 x3 x4 : Int) (x5 : List ByteArray) : B139_0 (x0, x1, x2, x3, x4, x5, ()) =
 bif decide (x4 < x3) then Option.bind (F165 (x0, x1, ())) fun r => bif decide (r.1 < ofNat 0) then some (inr (x0, x4, x5, ())) else bif decide (ofNat 0 ≤ wrap .i64 (r.1 + x2)) && decide (wrap .i64 (r.1 + x2) ≤ ofNat (size x0)) then bif decide (ofNat 0 ≤ x4) && decide (x4 < ofNat (length x5)) then Option.bind x5[toNat x4]? fun y => bif decide (ofNat 0 ≤ wrap .i64 (r.1 + ofNat (size x1))) && (decide (wrap .i64 (r.1 + ofNat (size x1)) ≤ ofNat (size x0)) && decide (ofNat (size x0) ≤ ofNat (size x0))) then some (inl (ByteArray.extract x0 (toNat (wrap .i64 (r.1 + ofNat (size x1)))) (toNat (ofNat (size x0))), x1, x2, x3, wrap .i64 (x4 + ofNat 1), List.set x5 (toNat x4) (ByteArray.extract x0 0 (toNat (wrap .i64 (r.1 + x2)))), ())) else none else none else none else some (inr (x0, x4, x5, ())) := by kernel_rfl
theorem F139_eq (x0 x1 : ByteArray) (x2 x3 : Int) : F139 (x0, x1, x2, x3, ()) =
 bif x3 == ofNat 0 then some ([], ()) else bif bl x1 == [] then none else bif decide (x3 < ofNat 0) then Option.bind (F164 (x0, x1, ())) fun r => bif decide (ofNat 0 ≤ bif decide (wrap .i64 (ofNat (size x0) + ofNat 1) < wrap .i64 (r.1 + ofNat 1)) then wrap .i64 (ofNat (size x0) + ofNat 1) else wrap .i64 (r.1 + ofNat 1)) && (decide ((bif decide (wrap .i64 (ofNat (size x0) + ofNat 1) < wrap .i64 (r.1 + ofNat 1)) then wrap .i64 (ofNat (size x0) + ofNat 1) else wrap .i64 (r.1 + ofNat 1)) ≤ bif decide (wrap .i64 (ofNat (size x0) + ofNat 1) < wrap .i64 (r.1 + ofNat 1)) then wrap .i64 (ofNat (size x0) + ofNat 1) else wrap .i64 (r.1 + ofNat 1)) && decide ((ofNat 16 * bif decide (wrap .i64 (ofNat (size x0) + ofNat 1) < wrap .i64 (r.1 + ofNat 1)) then wrap .i64 (ofNat (size x0) + ofNat 1) else wrap .i64 (r.1 + ofNat 1)) ≤ ofNat 281474976710656) && decide ((bif decide (wrap .i64 (ofNat (size x0) + ofNat 1) < wrap .i64 (r.1 + ofNat 1)) then wrap .i64 (ofNat (size x0) + ofNat 1) else wrap .i64 (r.1 + ofNat 1)) ≤ ofNat 9223372036854775807)) then Option.bind (loop B139_0 (x0, x1, x2, wrap .i64 ((bif decide (wrap .i64 (ofNat (size x0) + ofNat 1) < wrap .i64 (r.1 + ofNat 1)) then wrap .i64 (ofNat (size x0) + ofNat 1) else wrap .i64 (r.1 + ofNat 1)) - ofNat 1), ofNat 0, List.replicate (toNat (bif decide (wrap .i64 (ofNat (size x0) + ofNat 1) < wrap .i64 (r.1 + ofNat 1)) then wrap .i64 (ofNat (size x0) + ofNat 1) else wrap .i64 (r.1 + ofNat 1))) (lit []), ())) fun r => bif decide (ofNat 0 ≤ r.2.1) && decide (r.2.1 < ofNat (length r.2.2.1)) then Option.bind r.2.2.1[toNat r.2.1]? fun y => bif decide (ofNat 0 ≤ wrap .i64 (r.2.1 + ofNat 1)) && (decide (wrap .i64 (r.2.1 + ofNat 1) ≤ ofNat (length (List.set r.2.2.1 (toNat r.2.1) r.1))) && decide (ofNat (length (List.set r.2.2.1 (toNat r.2.1) r.1)) ≤ ofNat (length (List.set r.2.2.1 (toNat r.2.1) r.1)))) then some (List.drop 0 (List.take (0 + toNat (wrap .i64 (r.2.1 + ofNat 1))) (List.set r.2.2.1 (toNat r.2.1) r.1)), ()) else none else none else none else bif decide (ofNat 0 ≤ bif decide (wrap .i64 (ofNat (size x0) + ofNat 1) < x3) then wrap .i64 (ofNat (size x0) + ofNat 1) else x3) && (decide ((bif decide (wrap .i64 (ofNat (size x0) + ofNat 1) < x3) then wrap .i64 (ofNat (size x0) + ofNat 1) else x3) ≤ bif decide (wrap .i64 (ofNat (size x0) + ofNat 1) < x3) then wrap .i64 (ofNat (size x0) + ofNat 1) else x3) && decide ((ofNat 16 * bif decide (wrap .i64 (ofNat (size x0) + ofNat 1) < x3) then wrap .i64 (ofNat (size x0) + ofNat 1) else x3) ≤ ofNat 281474976710656) && decide ((bif decide (wrap .i64 (ofNat (size x0) + ofNat 1) < x3) then wrap .i64 (ofNat (size x0) + ofNat 1) else x3) ≤ ofNat 9223372036854775807)) then Option.bind (loop B139_0 (x0, x1, x2, wrap .i64 ((bif decide (wrap .i64 (ofNat (size x0) + ofNat 1) < x3) then wrap .i64 (ofNat (size x0) + ofNat 1) else x3) - ofNat 1), ofNat 0, List.replicate (toNat (bif decide (wrap .i64 (ofNat (size x0) + ofNat 1) < x3) then wrap .i64 (ofNat (size x0) + ofNat 1) else x3)) (lit []), ())) fun r => bif decide (ofNat 0 ≤ r.2.1) && decide (r.2.1 < ofNat (length r.2.2.1)) then Option.bind r.2.2.1[toNat r.2.1]? fun y => bif decide (ofNat 0 ≤ wrap .i64 (r.2.1 + ofNat 1)) && (decide (wrap .i64 (r.2.1 + ofNat 1) ≤ ofNat (length (List.set r.2.2.1 (toNat r.2.1) r.1))) && decide (ofNat (length (List.set r.2.2.1 (toNat r.2.1) r.1)) ≤ ofNat (length (List.set r.2.2.1 (toNat r.2.1) r.1)))) then some (List.drop 0 (List.take (0 + toNat (wrap .i64 (r.2.1 + ofNat 1))) (List.set r.2.2.1 (toNat r.2.1) r.1)), ()) else none else none else none := by kernel_rfl
theorem F102_eq (x0 x1 : ByteArray) : F102 (x0, x1, ()) =
 Option.bind (F139 (x0, x1, ofNat 0, Int.negSucc 0, ())) fun r => some (r.1, ()) := by kernel_rfl
theorem B149_0_eq (x0 : ByteArray) (x1 x2 : Int) : B149_0 (x0, x1, x2, ()) =
 bif decide (x2 < x1) then bif decide (ofNat 0 ≤ x2) && decide (x2 < ofNat (size x0)) then bif decide (bt x0 x2 < ofNat 48) then some (inr (inl (false, ()))) else bif decide (ofNat 0 ≤ x2) && decide (x2 < ofNat (size x0)) then bif decide (bt x0 x2 > ofNat 57) then some (inr (inl (false, ()))) else some (inl (x0, x1, wrap .i64 (x2 + ofNat 1), ())) else none else none else some (inr (inr (x0, ()))) := by kernel_rfl
theorem F149_eq (x0 : ByteArray) : F149 (x0, ()) =
 Option.bind (loop B149_0 (x0, ofNat (size x0), ofNat 0, ())) fun r => elim (fun p => some (p.1, ())) (fun p => some (!bl p.1 == [], ())) r := by kernel_rfl
theorem F171_eq (x0 : ByteArray) : F171 (x0, ()) =
 some (!bl x0 == bl x0, ()) := by kernel_rfl
theorem F150_eq (x0 x1 : ByteArray) : F150 (x0, x1, ()) =
 Option.bind (F171 (x0, ())) fun r => Option.bind (F171 (x1, ())) fun r_1 => bif r.1 then bif r_1.1 then some (ofNat 0, ()) else some (Int.negSucc 0, ()) else bif r_1.1 then some (ofNat 1, ()) else bif Op.bytesLess (bl x0) (bl x1) then some (Int.negSucc 0, ()) else bif !(Op.bytesLess (bl x0) (bl x1) || bl x0 == bl x1) then some (ofNat 1, ()) else some (ofNat 0, ()) := by kernel_rfl
theorem F115_eq (x0 x1 : ByteArray) : F115 (x0, x1, ()) =
 Option.bind (F149 (x0, ())) fun r => Option.bind (F149 (x1, ())) fun r_1 => bif r.1 then bif r_1.1 then Option.bind (F92 (ofNat (size x0), ofNat (size x1), ())) fun r => Option.bind (F150 (x0, x1, ())) fun r_2 => Option.bind (F66 ([r.1, r_2.1], ())) fun r => some (r.1, ()) else bif r.1 then some (Int.negSucc 0, ()) else bif r_1.1 then some (ofNat 1, ()) else Option.bind (F150 (x0, x1, ())) fun r => some (r.1, ()) else bif r.1 then some (Int.negSucc 0, ()) else bif r_1.1 then some (ofNat 1, ()) else Option.bind (F150 (x0, x1, ())) fun r => some (r.1, ()) := by kernel_rfl
theorem B114_0_eq (x0 x1 x2 : List ByteArray) (x3 x4 : Int) : B114_0 (x0, x1, x2, x3, x4, ()) =
 bif decide (x4 < x3) then bif decide (ofNat 0 ≤ x4) then Option.bind x2[toNat x4]? fun y => bif decide (x4 ≥ ofNat (length x1)) then some (inr (inl (ofNat 1, ()))) else bif decide (ofNat 0 ≤ x4) then Option.bind x1[toNat x4]? fun y_1 => Option.bind (F115 (y, y_1, ())) fun r => bif !r.1 == ofNat 0 then some (inr (inl (r.1, ()))) else some (inl (x0, x1, x2, x3, wrap .i64 (x4 + ofNat 1), ())) else none else none else some (inr (inr (x0, x1, ()))) := by kernel_rfl
theorem F114_eq (x0 x1 : List ByteArray) : F114 (x0, x1, ()) =
 Option.bind (loop B114_0 (x0, x1, x0, ofNat (length x0), ofNat 0, ())) fun r => elim (fun p => some (p.1, ())) (fun p => bif decide (ofNat (length p.1) < ofNat (length p.2.1)) then some (Int.negSucc 0, ()) else some (ofNat 0, ())) r := by kernel_rfl
theorem F93_eq (x0 x1 : ByteArray) : F93 (x0, x1, ()) =
 bif bl x0 == bl x1 then some (ofNat 0, ()) else bif bl x0 == [] then some (ofNat 1, ()) else bif bl x1 == [] then some (Int.negSucc 0, ()) else Option.bind (F102 (x0, (lit [46]), ())) fun r => Option.bind (F102 (x1, (lit [46]), ())) fun r_1 => Option.bind (F114 (r.1, r_1.1, ())) fun r => some (r.1, ()) := by kernel_rfl
theorem F67_eq (x0 x1 x2 : Int) (x3 : ByteArray) (x4 x5 x6 : Int) (x7 : ByteArray) : F67 (x0, x1, x2, x3, x4, x5, x6, x7, ()) =
 Option.bind (F92 (x0, x4, ())) fun r => Option.bind (F92 (x1, x5, ())) fun r_1 => Option.bind (F92 (x2, x6, ())) fun r_2 => Option.bind (F93 (x3, x7, ())) fun r_3 => Option.bind (F66 ([r.1, r_1.1, r_2.1, r_3.1], ())) fun r => some (r.1, ()) := by kernel_rfl
theorem F40_eq (x0 x1 x2 : Int) (x3 : ByteArray) (x4 x5 : Bool) (x6 x7 x8 : Int) (x9 : ByteArray) (x10 x11 : Bool) : F40 (x0, x1, x2, x3, x4, x5, x6, x7, x8, x9, x10, x11, ()) =
 bif x5 then Option.bind (F65 (x5, ())) fun r => Option.bind (F65 (x11, ())) fun r_1 => some (wrap .i64 (r.1 - r_1.1), ()) else bif x11 then Option.bind (F65 (x5, ())) fun r => Option.bind (F65 (x11, ())) fun r_1 => some (wrap .i64 (r.1 - r_1.1), ()) else Option.bind (F67 (x0, x1, x2, x3, x6, x7, x8, x9, ())) fun r => Option.bind (F65 (x4, ())) fun r_1 => Option.bind (F65 (x10, ())) fun r_2 => Option.bind (F66 ([r.1, wrap .i64 (r_1.1 - r_2.1)], ())) fun r => some (r.1, ()) := by kernel_rfl
theorem F69_eq (x0 x1 x2 : Int) (x3 : ByteArray) (x4 x5 : Bool) (x6 x7 x8 : Int) (x9 : ByteArray) (x10 x11 : Bool) : F69 (x0, x1, x2, x3, x4, x5, x6, x7, x8, x9, x10, x11, ()) =
 Option.bind (F40 (x0, x1, x2, x3, x4, x5, x6, x7, x8, x9, x10, x11, ())) fun r => some (decide (r.1 ≥ ofNat 0), ()) := by kernel_rfl
theorem B74_0_eq (x0 x1 : Int) (x2 : List R8) : B74_0 (x0, x1, x2, ()) =
 bif decide (x1 < x0) then bif decide (ofNat 0 ≤ x1) && decide (x1 < ofNat (length x2)) then Option.bind x2[toNat x1]? fun y => Option.bind (F69 (y.1, y.2.1, y.2.2.1, y.2.2.2.1, y.2.2.2.2.1, y.2.2.2.2.2.1, y.2.2.2.2.2.2.1, y.2.2.2.2.2.2.2.1, y.2.2.2.2.2.2.2.2.1, y.2.2.2.2.2.2.2.2.2.1, y.2.2.2.2.2.2.2.2.2.2.1, y.2.2.2.2.2.2.2.2.2.2.2.1, ())) fun r => bif r.1 then some (inr (inl (x1, x2, ()))) else some (inl (x0, wrap .i64 (x1 + ofNat 1), x2, ())) else none else some (inr (inr (x2, ()))) := by kernel_rfl
theorem F74_eq (x0 : List R8) : F74 (x0, ()) =
 Option.bind (loop B74_0 (ofNat (length x0), ofNat 0, x0, ())) fun r => elim (fun p => some (p.1, p.2.1, ())) (fun p => some (Int.negSucc 0, p.1, ())) r := by kernel_rfl
theorem B68_0_eq (x0 x1 : Int) (x2 : List R8) : B68_0 (x0, x1, x2, ()) =
 bif decide (x1 < ofNat (length x2)) then bif decide (ofNat 0 ≤ x1) && decide (x1 < ofNat (length x2)) then Option.bind x2[toNat x1]? fun y => Option.bind (F69 (y.1, y.2.1, y.2.2.1, y.2.2.2.1, y.2.2.2.2.1, y.2.2.2.2.2.1, y.2.2.2.2.2.2.1, y.2.2.2.2.2.2.2.1, y.2.2.2.2.2.2.2.2.1, y.2.2.2.2.2.2.2.2.2.1, y.2.2.2.2.2.2.2.2.2.2.1, y.2.2.2.2.2.2.2.2.2.2.2.1, ())) fun r => bif !r.1 then bif decide (ofNat 0 ≤ x0) && decide (x0 < ofNat (length x2)) then Option.bind x2[toNat x0]? fun y_1 => some (inl (wrap .i64 (x0 + ofNat 1), wrap .i64 (x1 + ofNat 1), List.set x2 (toNat x0) (y.1, y.2.1, y.2.2.1, y.2.2.2.1, y.2.2.2.2.1, y.2.2.2.2.2.1, y.2.2.2.2.2.2.1, y.2.2.2.2.2.2.2.1, y.2.2.2.2.2.2.2.2.1, y.2.2.2.2.2.2.2.2.2.1, y.2.2.2.2.2.2.2.2.2.2.1, y.2.2.2.2.2.2.2.2.2.2.2.1, ()), ())) else none else some (inl (x0, wrap .i64 (x1 + ofNat 1), x2, ())) else none else some (inr (x0, x2, ())) := by kernel_rfl
theorem F68_eq (x0 : List R8) : F68 (x0, ()) =
 Option.bind (F74 (x0, ())) fun r => bif r.1 == Int.negSucc 0 then some (0, length r.2.1, r.2.1, ()) else Option.bind (loop B68_0 (r.1, wrap .i64 (r.1 + ofNat 1), r.2.1, ())) fun r => bif decide (ofNat 0 ≤ r.1) && (decide (r.1 ≤ ofNat (length r.2.1)) && (decide (ofNat (length r.2.1) ≤ ofNat (length r.2.1)) && decide (ofNat (length r.2.1) ≤ ofNat (length r.2.1)))) then bif decide (ofNat 0 ≤ r.1) && (decide (r.1 ≤ ofNat (length (List.take (0 + toNat r.1) r.2.1 ++ List.replicate (0 + toNat (ofNat (length r.2.1)) - (0 + toNat r.1)) (ofNat 0, ofNat 0, ofNat 0, (lit []), false, false, ofNat 0, ofNat 0, ofNat 0, (lit []), false, false, ()) ++ List.drop (0 + toNat r.1 + (0 + toNat (ofNat (length r.2.1)) - (0 + toNat r.1))) r.2.1))) && decide (ofNat (length (List.take (0 + toNat r.1) r.2.1 ++ List.replicate (0 + toNat (ofNat (length r.2.1)) - (0 + toNat r.1)) (ofNat 0, ofNat 0, ofNat 0, (lit []), false, false, ofNat 0, ofNat 0, ofNat 0, (lit []), false, false, ()) ++ List.drop (0 + toNat r.1 + (0 + toNat (ofNat (length r.2.1)) - (0 + toNat r.1))) r.2.1)) ≤ ofNat (length (List.take (0 + toNat r.1) r.2.1 ++ List.replicate (0 + toNat (ofNat (length r.2.1)) - (0 + toNat r.1)) (ofNat 0, ofNat 0, ofNat 0, (lit []), false, false, ofNat 0, ofNat 0, ofNat 0, (lit []), false, false, ()) ++ List.drop (0 + toNat r.1 + (0 + toNat (ofNat (length r.2.1)) - (0 + toNat r.1))) r.2.1)))) then some (0, 0 + toNat r.1, List.take (0 + toNat r.1) r.2.1 ++ List.replicate (0 + toNat (ofNat (length r.2.1)) - (0 + toNat r.1)) (ofNat 0, ofNat 0, ofNat 0, (lit []), false, false, ofNat 0, ofNat 0, ofNat 0, (lit []), false, false, ()) ++ List.drop (0 + toNat r.1 + (0 + toNat (ofNat (length r.2.1)) - (0 + toNat r.1))) r.2.1, ()) else none else none := by kernel_rfl
theorem F71_eq (x0 x1 x2 : Int) (x3 : ByteArray) (x4 x5 : Bool) (x6 x7 x8 : Int) (x9 : ByteArray) (x10 x11 : Bool) (x12 x13 x14 : Int) (x15 : ByteArray) (x16 x17 : Bool) (x18 x19 x20 : Int) (x21 : ByteArray) (x22 x23 : Bool) : F71 (x0, x1, x2, x3, x4, x5, x6, x7, x8, x9, x10, x11, x12, x13, x14, x15, x16, x17, x18, x19, x20, x21, x22, x23, ()) =
 Option.bind (F40 (x0, x1, x2, x3, x4, x5, x12, x13, x14, x15, x16, x17, ())) fun r => some (r.1, ()) := by kernel_rfl
theorem F72_eq (x0 : List R7) : F72 (x0, ()) =
 bif decide (ofNat 0 ≤ ofNat (length x0)) && (decide (ofNat (length x0) ≤ ofNat (length x0)) && decide (ofNat (length x0) ≤ ofNat (length x0))) then some (List.drop 0 (List.take (toNat (ofNat (length x0))) x0), ()) else none := by kernel_rfl
theorem B39v1_0_eq (x0 x1 : Int) (x2 : List R7) (x3 : List R8) : B39v1_0 (x0, x1, x2, x3, ()) =
 bif decide (x1 < x0) then bif decide (ofNat 0 ≤ x1) && decide (x1 < ofNat (length x2)) then Option.bind x2[toNat x1]? fun y => bif y.2.2.2.2.2.2.2.2.2.2.1 then bif decide (length x3 + length [(y.1, y.2.1, y.2.2.1, y.2.2.2.1, y.2.2.2.2.2.2.2.2.1, false, ofNat 0, ofNat 0, ofNat 0, (lit []), false, true, ())] ≤ 1466015503701) then some (inl (x0, wrap .i64 (x1 + ofNat 1), x2, x3 ++ [(y.1, y.2.1, y.2.2.1, y.2.2.2.1, y.2.2.2.2.2.2.2.2.1, false, ofNat 0, ofNat 0, ofNat 0, (lit []), false, true, ())], ())) else none else bif decide (length x3 + length [(y.1, y.2.1, y.2.2.1, y.2.2.2.1, y.2.2.2.2.2.2.2.2.1, false, y.2.2.2.2.1, y.2.2.2.2.2.1, y.2.2.2.2.2.2.1, y.2.2.2.2.2.2.2.1, y.2.2.2.2.2.2.2.2.2.1, false, ())] ≤ 1466015503701) then some (inl (x0, wrap .i64 (x1 + ofNat 1), x2, x3 ++ [(y.1, y.2.1, y.2.2.1, y.2.2.2.1, y.2.2.2.2.2.2.2.2.1, false, y.2.2.2.2.1, y.2.2.2.2.2.1, y.2.2.2.2.2.2.1, y.2.2.2.2.2.2.2.1, y.2.2.2.2.2.2.2.2.2.1, false, ())], ())) else none else none else some (inr (x2, x3, ())) := by kernel_rfl
theorem F39v1_eq (x0 : List R7) : F39v1 (x0, ()) =
 Option.bind (loop B39v1_0 (ofNat (length x0), ofNat 0, x0, [], ())) fun r => some (r.1, r.2.1, ()) := by kernel_rfl
theorem F73_eq (x0 : Int) : F73 (x0, ()) =
 bif decide (x0 < ofNat 0) then none else bif decide (wrap .i64 (x0 - ofNat 0) > ofNat 0) then bif decide (ofNat 0 < wrap .i64 (x0 - ofNat 0)) && decide (wrap .i64 (x0 - ofNat 0) ≤ ofNat 1599289640401) then bif decide (ofNat 0 ≤ ofNat (length (List.replicate (toNat (wrap .i64 (x0 - ofNat 0))) (ofNat 0, ofNat 0, ofNat 0, (lit []), ofNat 0, ofNat 0, ofNat 0, (lit []), false, false, false, ())))) then some (List.take 0 (List.replicate (toNat (wrap .i64 (x0 - ofNat 0))) (ofNat 0, ofNat 0, ofNat 0, (lit []), ofNat 0, ofNat 0, ofNat 0, (lit []), false, false, false, ())), ()) else none else none else some ([], ()) := by kernel_rfl
theorem B42_0_eq (x0 : List (List R7)) (x1 : Int) (x2 : List (List R7)) (x3 x4 : Int) : B42_0 (x0, x1, x2, x3, x4, ()) =
 bif decide (x4 < x3) then bif decide (ofNat 0 ≤ x4) then Option.bind x2[toNat x4]? fun y => bif decide (wrap .i64 (x1 + ofNat (length y)) < ofNat 0) then none else some (inl (x0, wrap .i64 (x1 + ofNat (length y)), x2, x3, wrap .i64 (x4 + ofNat 1), ())) else none else some (inr (x0, x1, ())) := by kernel_rfl
theorem B42_1_eq (x0 : List (List R7)) (x1 x2 : Int) (x3 : List R7) : B42_1 (x0, x1, x2, x3, ()) =
 bif decide (x2 < x1) then bif decide (ofNat 0 ≤ x2) then Option.bind x0[toNat x2]? fun y => bif decide (length x3 + length y ≤ 1599289640401) then some (inl (x0, x1, wrap .i64 (x2 + ofNat 1), x3 ++ y, ())) else none else none else some (inr (x3, ())) := by kernel_rfl
theorem F42_eq (x0 : List (List R7)) : F42 (x0, ()) =
 Option.bind (loop B42_0 (x0, ofNat 0, x0, ofNat (length x0), ofNat 0, ())) fun r => Option.bind (F73 (r.2.1, ())) fun r_1 => Option.bind (loop B42_1 (r.1, ofNat (length r.1), ofNat 0, r_1.1, ())) fun r => some (r.1, ()) := by kernel_rfl
theorem F43_eq  : F43 (()) =
 some (ofNat 0, ofNat 0, ofNat 0, (lit [48]), ()) := by kernel_rfl
theorem F50_eq (x0 : ByteArray) : F50 (x0, ()) =
 some (x0, ofNat 0, ()) := by kernel_rfl
theorem F77_eq  : F77 (()) =
 Option.bind (F43 ()) fun r => some ([(r.1, r.2.1, r.2.2.1, r.2.2.2.1, ofNat 0, ofNat 0, ofNat 0, (lit []), false, false, true, ())], ()) := by kernel_rfl
theorem F106_eq (x0 x1 : ByteArray) : F106 (x0, x1, ()) =
 bif decide (ofNat (size x0) ≥ ofNat (size x1)) then bif decide (ofNat 0 ≤ ofNat (size x1)) && decide (ofNat (size x1) ≤ ofNat (size x0)) then some (bl (ByteArray.extract x0 0 (toNat (ofNat (size x1)))) == bl x1, ()) else none else some (false, ()) := by kernel_rfl
theorem F82_eq (x0 x1 : ByteArray) : F82 (x0, x1, ()) =
 Option.bind (F106 (x0, x1, ())) fun r => some (r.1, ()) := by kernel_rfl
theorem F52_eq (x0 x1 : ByteArray) (x2 : Int) : F52 (x0, x1, x2, ()) =
 bif decide (ofNat 0 ≤ x2) && (decide (x2 ≤ ofNat (size x1)) && decide (ofNat (size x1) ≤ ofNat (size x1))) then Option.bind (F82 (ByteArray.extract x1 (toNat x2) (toNat (ofNat (size x1))), x0, ())) fun r => bif !r.1 then some (false, x1, x2, ()) else some (true, x1, wrap .i64 (x2 + ofNat (size x0)), ()) else none := by kernel_rfl
theorem F140_eq (x0 : ByteArray) : F140 (x0, ()) =
 bif ofNat (size x0) == ofNat 0 then some ((lit []), ()) else bif decide (ofNat 0 ≤ ofNat (size x0)) && (decide (ofNat (size x0) ≤ ofNat (size x0)) && decide (ofNat 1 * ofNat (size x0) ≤ ofNat 281474976710656) && decide (ofNat (size x0) ≤ ofNat 9223372036854775807)) then bif decide (size x0 ≤ length (List.replicate (toNat (ofNat (size x0))) (ofNat 0))) then bif decide (ofNat 0 < ofNat (length (List.map (fun b => ofNat b.1.1.1) (bl x0) ++ List.drop (size x0) (List.replicate (toNat (ofNat (size x0))) (ofNat 0))))) then bif ofNat (length (List.map (fun b => ofNat b.1.1.1) (bl x0) ++ List.drop (size x0) (List.replicate (toNat (ofNat (size x0))) (ofNat 0)))) == ofNat (length (List.map (fun b => ofNat b.1.1.1) (bl x0) ++ List.drop (size x0) (List.replicate (toNat (ofNat (size x0))) (ofNat 0)))) && okBytes (List.map (fun b => ofNat b.1.1.1) (bl x0) ++ List.drop (size x0) (List.replicate (toNat (ofNat (size x0))) (ofNat 0))) then some (bstr (List.map (fun b => ofNat b.1.1.1) (bl x0) ++ List.drop (size x0) (List.replicate (toNat (ofNat (size x0))) (ofNat 0))), ()) else none else none else none else none := by kernel_rfl
theorem F104_eq (x0 : ByteArray) : F104 (x0, ()) =
 Option.bind (F140 (x0, ())) fun r => some (r.1, ()) := by kernel_rfl
theorem F133_eq (x0 : ByteArray) (x1 : Int) : F133 (x0, x1, ()) =
 Option.bind (F161 (x0, x1, ())) fun r => some (r.1, ()) := by kernel_rfl
theorem F156_eq (x0 : ByteArray) (x1 : Int) : F156 (x0, x1, ()) =
 bif decide (x1 ≥ ofNat (size x0)) then some (ofNat 0, false, x0, x1, ()) else bif decide (ofNat 0 ≤ x1) && decide (x1 < ofNat (size x0)) then some (bt x0 x1, true, x0, x1, ()) else none := by kernel_rfl
theorem B126_0_eq (x0 : ByteArray) (x1 x2 : Int) (x3 : Bool) (x4 : ByteArray) (x5 : Int) : B126_0 (x0, x1, x2, x3, x4, x5, ()) =
 bif x3 then Option.bind (F133 (x0, x2, ())) fun r => bif decide (r.1 ≥ ofNat 0) then Option.bind (F156 (x4, wrap .i64 (x5 + ofNat 1), ())) fun r => some (inl (x0, x1, r.1, r.2.1, r.2.2.1, r.2.2.2.1, ())) else some (inr (x1, x4, x5, ())) else some (inr (x1, x4, x5, ())) := by kernel_rfl
theorem F126_eq (x0 x1 : ByteArray) (x2 : Int) : F126 (x0, x1, x2, ()) =
 Option.bind (F156 (x1, x2, ())) fun r => Option.bind (loop B126_0 (x0, x2, r.1, r.2.1, r.2.2.1, r.2.2.2.1, ())) fun r => bif decide (ofNat 0 ≤ r.1) && (decide (r.1 ≤ r.2.2.1) && decide (r.2.2.1 ≤ ofNat (size r.2.1))) then Option.bind (F104 (ByteArray.extract r.2.1 (toNat r.1) (toNat r.2.2.1), ())) fun r_1 => some (r_1.1, r.2.1, r.2.2.1, ()) else none := by kernel_rfl
theorem F96_eq (x0 x1 : ByteArray) (x2 : Int) (x3 : ByteArray) (x4 : Int) : F96 (x0, x1, x2, x3, x4, ()) =
 Option.bind (F126 ((lit [32]), x3, x4, ())) fun r => some (x0, x1, x2, r.2.1, r.2.2.1, ()) := by kernel_rfl
theorem F78_eq (x0 x1 : ByteArray) (x2 : Int) (x3 : ByteArray) (x4 : Int) : F78 (x0, x1, x2, x3, x4, ()) =
 Option.bind (F96 (x0, x1, x2, x3, x4, ())) fun r => bif decide (ofNat 0 ≤ r.2.2.2.2.1) && (decide (r.2.2.2.2.1 ≤ ofNat (size r.1)) && decide (ofNat (size r.1) ≤ ofNat (size r.1))) then Option.bind (FIndexAny (ByteArray.extract r.1 (toNat r.2.2.2.2.1) (toNat (ofNat (size r.1))), (lit [32, 124]), ())) fun r_1 => bif decide (r_1.1 < ofNat 0) then bif decide (ofNat 0 ≤ r.2.2.2.2.1) && (decide (r.2.2.2.2.1 ≤ wrap .i64 (r.2.2.2.2.1 + wrap .i64 (ofNat (size r.1) - r.2.2.2.2.1))) && decide (wrap .i64 (r.2.2.2.2.1 + wrap .i64 (ofNat (size r.1) - r.2.2.2.2.1)) ≤ ofNat (size r.1))) then Option.bind (F52 (ByteArray.extract r.1 (toNat r.2.2.2.2.1) (toNat (wrap .i64 (r.2.2.2.2.1 + wrap .i64 (ofNat (size r.1) - r.2.2.2.2.1)))), r.2.2.2.1, r.2.2.2.2.1, ())) fun r_2 => bif r_2.1 then some (decide (wrap .i64 (ofNat (size r.1) - r.2.2.2.2.1) > ofNat 0), r.1, ByteArray.extract r.1 (toNat r.2.2.2.2.1) (toNat (wrap .i64 (r.2.2.2.2.1 + wrap .i64 (ofNat (size r.1) - r.2.2.2.2.1)))), r.2.2.2.2.1, r_2.2.1, r_2.2.2.1, ()) else some (false, r.1, ByteArray.extract r.1 (toNat r.2.2.2.2.1) (toNat (wrap .i64 (r.2.2.2.2.1 + wrap .i64 (ofNat (size r.1) - r.2.2.2.2.1)))), r.2.2.2.2.1, r_2.2.1, r_2.2.2.1, ()) else none else bif decide (ofNat 0 ≤ r.2.2.2.2.1) && (decide (r.2.2.2.2.1 ≤ wrap .i64 (r.2.2.2.2.1 + r_1.1)) && decide (wrap .i64 (r.2.2.2.2.1 + r_1.1) ≤ ofNat (size r.1))) then Option.bind (F52 (ByteArray.extract r.1 (toNat r.2.2.2.2.1) (toNat (wrap .i64 (r.2.2.2.2.1 + r_1.1))), r.2.2.2.1, r.2.2.2.2.1, ())) fun r_2 => bif r_2.1 then some (decide (r_1.1 > ofNat 0), r.1, ByteArray.extract r.1 (toNat r.2.2.2.2.1) (toNat (wrap .i64 (r.2.2.2.2.1 + r_1.1))), r.2.2.2.2.1, r_2.2.1, r_2.2.2.1, ()) else some (false, r.1, ByteArray.extract r.1 (toNat r.2.2.2.2.1) (toNat (wrap .i64 (r.2.2.2.2.1 + r_1.1))), r.2.2.2.2.1, r_2.2.1, r_2.2.2.1, ()) else none else none := by kernel_rfl
theorem F137_eq (x0 x1 : ByteArray) : F137 (x0, x1, ()) =
 Option.bind (F106 (x0, x1, ())) fun r => bif !r.1 then some (x0, false, ()) else bif decide (ofNat 0 ≤ ofNat (size x1)) && (decide (ofNat (size x1) ≤ ofNat (size x0)) && decide (ofNat (size x0) ≤ ofNat (size x0))) then some (ByteArray.extract x0 (toNat (ofNat (size x1))) (toNat (ofNat (size x0))), true, ()) else none := by kernel_rfl
theorem F100_eq (x0 x1 : ByteArray) : F100 (x0, x1, ()) =
 Option.bind (F137 (x0, x1, ())) fun r => some (r.1, r.2.1, ()) := by kernel_rfl
theorem B103_0_eq (x0 : ByteArray) (x1 x2 x3 : Int) : B103_0 (x0, x1, x2, x3, ()) =
 bif decide (x3 < x2) then bif decide (ofNat 0 ≤ x3) && decide (x3 < ofNat (size x0)) then bif decide (bt x0 x3 < ofNat 48) then some (inr (inl (ofNat 0, false, ()))) else bif decide (ofNat 0 ≤ x3) && decide (x3 < ofNat (size x0)) then bif decide (bt x0 x3 > ofNat 57) then some (inr (inl (ofNat 0, false, ()))) else bif decide (ofNat 0 ≤ x3) && decide (x3 < ofNat (size x0)) then some (inl (x0, wrap .i64 (wrap .i64 (ofNat 10 * x1) + wrap .i64 (wrap .u8 (bt x0 x3 - ofNat 48))), x2, wrap .i64 (x3 + ofNat 1), ())) else none else none else none else some (inr (inr (x1, ()))) := by kernel_rfl
theorem F103_eq (x0 : ByteArray) : F103 (x0, ()) =
 bif decide (ofNat (size x0) < ofNat 1) then some (ofNat 0, false, ()) else bif decide (ofNat (size x0) > ofNat 9) then some (ofNat 0, false, ()) else bif decide (ofNat (size x0) > ofNat 1) then bif decide (ofNat 0 < ofNat (size x0)) then bif bt x0 (ofNat 0) == ofNat 48 then some (ofNat 0, false, ()) else Option.bind (loop B103_0 (x0, ofNat 0, ofNat (size x0), ofNat 0, ())) fun r => elim (fun p => some (p.1, p.2.1, ())) (fun p => some (p.1, true, ())) r else none else Option.bind (loop B103_0 (x0, ofNat 0, ofNat (size x0), ofNat 0, ())) fun r => elim (fun p => some (p.1, p.2.1, ())) (fun p => some (p.1, true, ())) r := by kernel_rfl
theorem F173_eq (x0 x1 : ByteArray) : F173 (x0, x1, ()) =
 bif decide (ofNat (size x0) ≥ ofNat (size x1)) then bif decide (ofNat 0 ≤ wrap .i64 (ofNat (size x0) - ofNat (size x1))) && (decide (wrap .i64 (ofNat (size x0) - ofNat (size x1)) ≤ ofNat (size x0)) && decide (ofNat (size x0) ≤ ofNat (size x0))) then some (bl (ByteArray.extract x0 (toNat (wrap .i64 (ofNat (size x0) - ofNat (size x1)))) (toNat (ofNat (size x0)))) == bl x1, ()) else none else some (false, ()) := by kernel_rfl
theorem F160_eq (x0 x1 : ByteArray) : F160 (x0, x1, ()) =
 Option.bind (F173 (x0, x1, ())) fun r => bif !r.1 then some (x0, false, ()) else bif decide (ofNat 0 ≤ wrap .i64 (ofNat (size x0) - ofNat (size x1))) && decide (wrap .i64 (ofNat (size x0) - ofNat (size x1)) ≤ ofNat (size x0)) then some (ByteArray.extract x0 0 (toNat (wrap .i64 (ofNat (size x0) - ofNat (size x1)))), true, ()) else none := by kernel_rfl
theorem F131_eq (x0 x1 : ByteArray) : F131 (x0, x1, ()) =
 Option.bind (F160 (x0, x1, ())) fun r => some (r.1, r.2.1, ()) := by kernel_rfl
theorem B132_0_eq (x0 x1 x2 x3 x4 : Int) (x5 : ByteArray) (x6 x7 : Bool) (x8 x9 x10 : Int) : B132_0 (x0, x1, x2, x3, x4, x5, x6, x7, x8, x9, x10, ()) =
 bif decide (x1 < ofNat 3) then bif x1 == ofNat 0 then some (inl (x0, wrap .i64 (x1 + ofNat 1), x2, x3, x4, x5, x6, x7, ofNat 0, x9, x10, ())) else bif x1 == ofNat 1 then some (inl (x0, wrap .i64 (x1 + ofNat 1), x2, x3, x4, x5, x6, x7, x8, ofNat 0, x10, ())) else bif x1 == ofNat 2 then some (inl (x0, wrap .i64 (x1 + ofNat 1), x2, x3, x4, x5, x6, x7, x8, x9, ofNat 0, ())) else none else some (inr (x0, x2, x3, x4, x5, x6, x7, x8, x9, x10, ())) := by kernel_rfl
theorem B132_1_eq (x0 x1 x2 x3 : Int) (x4 : ByteArray) (x5 x6 : Bool) (x7 x8 x9 : Int) : B132_1 (x0, x1, x2, x3, x4, x5, x6, x7, x8, x9, ()) =
 bif decide (x0 ≥ ofNat 0) then bif x0 == ofNat 0 then bif decide (x7 < ofNat 999999) then bif x0 == ofNat 0 then bif x0 == ofNat 0 then some (inr (inl (wrap .i64 (x7 + ofNat 1), x8, x9, (lit [48]), false, false, ()))) else bif x0 == ofNat 1 then some (inr (inl (x7, wrap .i64 (x7 + ofNat 1), x9, (lit [48]), false, false, ()))) else bif x0 == ofNat 2 then some (inr (inl (x7, x8, wrap .i64 (x7 + ofNat 1), (lit [48]), false, false, ()))) else none else bif x0 == ofNat 1 then bif x0 == ofNat 0 then some (inr (inl (wrap .i64 (x8 + ofNat 1), x8, x9, (lit [48]), false, false, ()))) else bif x0 == ofNat 1 then some (inr (inl (x7, wrap .i64 (x8 + ofNat 1), x9, (lit [48]), false, false, ()))) else bif x0 == ofNat 2 then some (inr (inl (x7, x8, wrap .i64 (x8 + ofNat 1), (lit [48]), false, false, ()))) else none else bif x0 == ofNat 2 then bif x0 == ofNat 0 then some (inr (inl (wrap .i64 (x9 + ofNat 1), x8, x9, (lit [48]), false, false, ()))) else bif x0 == ofNat 1 then some (inr (inl (x7, wrap .i64 (x9 + ofNat 1), x9, (lit [48]), false, false, ()))) else bif x0 == ofNat 2 then some (inr (inl (x7, x8, wrap .i64 (x9 + ofNat 1), (lit [48]), false, false, ()))) else none else none else bif x0 == ofNat 0 then some (inl (wrap .i64 (x0 - ofNat 1), x1, x2, x3, x4, x5, x6, ofNat 0, x8, x9, ())) else bif x0 == ofNat 1 then some (inl (wrap .i64 (x0 - ofNat 1), x1, x2, x3, x4, x5, x6, x7, ofNat 0, x9, ())) else bif x0 == ofNat 2 then some (inl (wrap .i64 (x0 - ofNat 1), x1, x2, x3, x4, x5, x6, x7, x8, ofNat 0, ())) else none else bif x0 == ofNat 1 then bif decide (x8 < ofNat 999999) then bif x0 == ofNat 0 then bif x0 == ofNat 0 then some (inr (inl (wrap .i64 (x7 + ofNat 1), x8, x9, (lit [48]), false, false, ()))) else bif x0 == ofNat 1 then some (inr (inl (x7, wrap .i64 (x7 + ofNat 1), x9, (lit [48]), false, false, ()))) else bif x0 == ofNat 2 then some (inr (inl (x7, x8, wrap .i64 (x7 + ofNat 1), (lit [48]), false, false, ()))) else none else bif x0 == ofNat 1 then bif x0 == ofNat 0 then some (inr (inl (wrap .i64 (x8 + ofNat 1), x8, x9, (lit [48]), false, false, ()))) else bif x0 == ofNat 1 then some (inr (inl (x7, wrap .i64 (x8 + ofNat 1), x9, (lit [48]), false, false, ()))) else bif x0 == ofNat 2 then some (inr (inl (x7, x8, wrap .i64 (x8 + ofNat 1), (lit [48]), false, false, ()))) else none else bif x0 == ofNat 2 then bif x0 == ofNat 0 then some (inr (inl (wrap .i64 (x9 + ofNat 1), x8, x9, (lit [48]), false, false, ()))) else bif x0 == ofNat 1 then some (inr (inl (x7, wrap .i64 (x9 + ofNat 1), x9, (lit [48]), false, false, ()))) else bif x0 == ofNat 2 then some (inr (inl (x7, x8, wrap .i64 (x9 + ofNat 1), (lit [48]), false, false, ()))) else none else none else bif x0 == ofNat 0 then some (inl (wrap .i64 (x0 - ofNat 1), x1, x2, x3, x4, x5, x6, ofNat 0, x8, x9, ())) else bif x0 == ofNat 1 then some (inl (wrap .i64 (x0 - ofNat 1), x1, x2, x3, x4, x5, x6, x7, ofNat 0, x9, ())) else bif x0 == ofNat 2 then some (inl (wrap .i64 (x0 - ofNat 1), x1, x2, x3, x4, x5, x6, x7, x8, ofNat 0, ())) else none else bif x0 == ofNat 2 then bif decide (x9 < ofNat 999999) then bif x0 == ofNat 0 then bif x0 == ofNat 0 then some (inr (inl (wrap .i64 (x7 + ofNat 1), x8, x9, (lit [48]), false, false, ()))) else bif x0 == ofNat 1 then some (inr (inl (x7, wrap .i64 (x7 + ofNat 1), x9, (lit [48]), false, false, ()))) else bif x0 == ofNat 2 then some (inr (inl (x7, x8, wrap .i64 (x7 + ofNat 1), (lit [48]), false, false, ()))) else none else bif x0 == ofNat 1 then bif x0 == ofNat 0 then some (inr (inl (wrap .i64 (x8 + ofNat 1), x8, x9, (lit [48]), false, false, ()))) else bif x0 == ofNat 1 then some (inr (inl (x7, wrap .i64 (x8 + ofNat 1), x9, (lit [48]), false, false, ()))) else bif x0 == ofNat 2 then some (inr (inl (x7, x8, wrap .i64 (x8 + ofNat 1), (lit [48]), false, false, ()))) else none else bif x0 == ofNat 2 then bif x0 == ofNat 0 then some (inr (inl (wrap .i64 (x9 + ofNat 1), x8, x9, (lit [48]), false, false, ()))) else bif x0 == ofNat 1 then some (inr (inl (x7, wrap .i64 (x9 + ofNat 1), x9, (lit [48]), false, false, ()))) else bif x0 == ofNat 2 then some (inr (inl (x7, x8, wrap .i64 (x9 + ofNat 1), (lit [48]), false, false, ()))) else none else none else bif x0 == ofNat 0 then some (inl (wrap .i64 (x0 - ofNat 1), x1, x2, x3, x4, x5, x6, ofNat 0, x8, x9, ())) else bif x0 == ofNat 1 then some (inl (wrap .i64 (x0 - ofNat 1), x1, x2, x3, x4, x5, x6, x7, ofNat 0, x9, ())) else bif x0 == ofNat 2 then some (inl (wrap .i64 (x0 - ofNat 1), x1, x2, x3, x4, x5, x6, x7, x8, ofNat 0, ())) else none else none else some (inr (inr (x1, x2, x3, x4, x5, x6, ()))) := by kernel_rfl
theorem F132_eq (x0 x1 x2 : Int) (x3 : ByteArray) (x4 : Int) : F132 (x0, x1, x2, x3, x4, ()) =
 Option.bind (loop B132_0 (x4, wrap .i64 (x4 + ofNat 1), ofNat 0, ofNat 0, ofNat 0, (lit []), false, false, x0, x1, x2, ())) fun r => Option.bind (loop B132_1 (r.1, r.2.1, r.2.2.1, r.2.2.2.1, r.2.2.2.2.1, r.2.2.2.2.2.1, r.2.2.2.2.2.2.1, r.2.2.2.2.2.2.2.1, r.2.2.2.2.2.2.2.2.1, r.2.2.2.2.2.2.2.2.2.1, ())) fun r => elim (fun p => some (p.1, p.2.1, p.2.2.1, p.2.2.2.1, p.2.2.2.2.1, p.2.2.2.2.2.1, ())) (fun p => some (ofNat 0, ofNat 0, ofNat 0, (lit []), false, true, ())) r := by kernel_rfl
theorem F134_eq  : F134 (()) =
 some (ofNat 0, ofNat 0, ofNat 0, (lit []), false, true, ()) := by kernel_rfl
theorem F135_eq  : F135 (()) =
 Option.bind (F43 ()) fun r => some (r.1, r.2.1, r.2.2.1, r.2.2.2.1, false, false, ()) := by kernel_rfl
theorem F136_eq (x0 x1 x2 : Int) (x3 : ByteArray) : F136 (x0, x1, x2, x3, ()) =
 bif decide (x0 > ofNat 0) then Option.bind (F132 (x0, x1, x2, x3, ofNat 0, ())) fun r => some (r.1, r.2.1, r.2.2.1, r.2.2.2.1, r.2.2.2.2.1, r.2.2.2.2.2.1, ()) else bif decide (x1 > ofNat 0) then Option.bind (F132 (x0, x1, x2, x3, ofNat 1, ())) fun r => some (r.1, r.2.1, r.2.2.1, r.2.2.2.1, r.2.2.2.2.1, r.2.2.2.2.2.1, ()) else Option.bind (F132 (x0, x1, x2, x3, ofNat 2, ())) fun r => some (r.1, r.2.1, r.2.2.1, r.2.2.2.1, r.2.2.2.2.1, r.2.2.2.2.2.1, ()) := by kernel_rfl
theorem F138_eq (x0 x1 : ByteArray) : F138 (x0, x1, ()) =
 Option.bind (F162 (x0, x1, ())) fun r => bif decide (r.1 ≥ ofNat 0) then bif decide (ofNat 0 ≤ r.1) && decide (r.1 ≤ ofNat (size x0)) then bif decide (ofNat 0 ≤ wrap .i64 (r.1 + ofNat (size x1))) && (decide (wrap .i64 (r.1 + ofNat (size x1)) ≤ ofNat (size x0)) && decide (ofNat (size x0) ≤ ofNat (size x0))) then some (ByteArray.extract x0 0 (toNat r.1), ByteArray.extract x0 (toNat (wrap .i64 (r.1 + ofNat (size x1)))) (toNat (ofNat (size x0))), true, ()) else none else none else some (x0, (lit []), false, ()) := by kernel_rfl
theorem F101_eq (x0 x1 : ByteArray) : F101 (x0, x1, ()) =
 Option.bind (F138 (x0, x1, ())) fun r => some (r.1, r.2.1, r.2.2.1, ()) := by kernel_rfl
theorem F141_eq (x0 : Int) : F141 (x0, ()) =
 bif decide (x0 ≥ ofNat 0) then some (decide (x0 ≤ ofNat 999999), ()) else some (false, ()) := by kernel_rfl
theorem B144_0_eq (x0 : ByteArray) (x1 x2 : Int) : B144_0 (x0, x1, x2, ()) =
 bif decide (x2 < x1) then bif decide (ofNat 0 ≤ x2) && decide (x2 < ofNat (size x0)) then Option.bind (F133 ((lit [97, 98, 99, 100, 101, 102, 103, 104, 105, 106, 107, 108, 109, 110, 111, 112, 113, 114, 115, 116, 117, 118, 119, 120, 121, 122, 65, 66, 67, 68, 69, 70, 71, 72, 73, 74, 75, 76, 77, 78, 79, 80, 81, 82, 83, 84, 85, 86, 87, 88, 89, 90, 48, 49, 50, 51, 52, 53, 54, 55, 56, 57, 45]), bt x0 x2, ())) fun r => bif decide (r.1 < ofNat 0) then some (inr (inl (false, ()))) else some (inl (x0, x1, wrap .i64 (x2 + ofNat 1), ())) else none else some (inr (inr (x0, ()))) := by kernel_rfl
theorem F144_eq (x0 : ByteArray) : F144 (x0, ()) =
 Option.bind (loop B144_0 (x0, ofNat (size x0), ofNat 0, ())) fun r => elim (fun p => some (p.1, ())) (fun p => bif !bl p.1 == [] then bif decide (ofNat (size p.1) > ofNat 1) then bif decide (ofNat 0 < ofNat (size p.1)) then bif bt p.1 (ofNat 0) == ofNat 48 then Option.bind (F149 (p.1, ())) fun r => some (!r.1, ()) else some (true, ()) else none else some (true, ()) else some (false, ())) r := by kernel_rfl
theorem F143_eq (x0 : ByteArray) : F143 (x0, ()) =
 Option.bind (F144 (x0, ())) fun r => some (!r.1, ()) := by kernel_rfl
theorem B166_0_eq (x0 : List ByteArray) (x1 x2 : Int) : B166_0 (x0, x1, x2, ()) =
 bif decide (x2 < x1) then bif decide (ofNat 0 ≤ x2) then Option.bind x0[toNat x2]? fun y => Option.bind (F143 (y, ())) fun r => bif r.1 then some (inr (inl (x2, ()))) else some (inl (x0, x1, wrap .i64 (x2 + ofNat 1), ())) else none else some (inr (inr ())) := by kernel_rfl
theorem F166_eq (x0 : List ByteArray) : F166 (x0, ()) =
 Option.bind (loop B166_0 (x0, ofNat (length x0), ofNat 0, ())) fun r => elim (fun p => some (p.1, ())) (fun p => some (Int.negSucc 0, ())) r := by kernel_rfl
theorem F142_eq (x0 : List ByteArray) : F142 (x0, ()) =
 Option.bind (F166 (x0, ())) fun r => some (decide (r.1 ≥ ofNat 0), ()) := by kernel_rfl
theorem F105_eq (x0 x1 x2 : Int) (x3 : ByteArray) : F105 (x0, x1, x2, x3, ()) =
 Option.bind (F141 (x0, ())) fun r => bif !r.1 then some (false, ()) else Option.bind (F141 (x1, ())) fun r => bif !r.1 then some (false, ()) else Option.bind (F141 (x2, ())) fun r => bif !r.1 then some (false, ()) else bif decide (ofNat (size x3) > ofNat 40) then some (false, ()) else bif bl x3 == [] then some (true, ()) else Option.bind (F102 (x3, (lit [46]), ())) fun r => Option.bind (F142 (r.1, ())) fun r => some (!r.1, ()) := by kernel_rfl
theorem B80_0_eq (x0 : ByteArray) (x1 : List ByteArray) (x2 x3 x4 x5 x6 : Int) (x7 : ByteArray) (x8 x9 x10 : Int) (x11 : ByteArray) : B80_0 (x0, x1, x2, x3, x4, x5, x6, x7, x8, x9, x10, x11, ()) =
 bif decide (x3 < x2) then bif x3 == ofNat 0 then bif decide (ofNat 0 ≤ x3) then Option.bind x1[toNat x3]? fun y => Option.bind (F103 (y, ())) fun r => bif !r.2.1 then some (inr (inl (false, ofNat 0, ofNat 0, ofNat 0, (lit []), ()))) else some (inl (x0, x1, x2, wrap .i64 (x3 + ofNat 1), x4, x5, x6, x7, r.1, x9, x10, x11, ())) else none else bif x3 == ofNat 1 then bif decide (ofNat 0 ≤ x3) then Option.bind x1[toNat x3]? fun y => Option.bind (F103 (y, ())) fun r => bif !r.2.1 then some (inr (inl (false, ofNat 0, ofNat 0, ofNat 0, (lit []), ()))) else some (inl (x0, x1, x2, wrap .i64 (x3 + ofNat 1), x4, x5, x6, x7, x8, r.1, x10, x11, ())) else none else bif x3 == ofNat 2 then bif decide (ofNat 0 ≤ x3) then Option.bind x1[toNat x3]? fun y => Option.bind (F103 (y, ())) fun r => bif !r.2.1 then some (inr (inl (false, ofNat 0, ofNat 0, ofNat 0, (lit []), ()))) else some (inl (x0, x1, x2, wrap .i64 (x3 + ofNat 1), x4, x5, x6, x7, x8, x9, r.1, x11, ())) else none else none else some (inr (inr (x0, x4, x5, x6, x7, x8, x9, x10, x11, ()))) := by kernel_rfl
theorem F80_eq (x0 : ByteArray) : F80 (x0, ()) =
 Option.bind (F100 (x0, (lit [118]), ())) fun r => Option.bind (F101 (r.1, (lit [45]), ())) fun r_1 => Option.bind (F102 (r_1.1, (lit [46]), ())) fun r_2 => bif !r.2.1 then some (ofNat 0, ofNat 0, ofNat 0, (lit []), false, ()) else bif !ofNat (length r_2.1) == ofNat 3 then some (ofNat 0, ofNat 0, ofNat 0, (lit []), false, ()) else bif r_1.2.2.1 then bif bl r_1.2.1 == [] then some (ofNat 0, ofNat 0, ofNat 0, (lit []), false, ()) else Option.bind (loop B80_0 (r_1.2.1, r_2.1, ofNat 3, ofNat 0, ofNat 0, ofNat 0, ofNat 0, (lit []), ofNat 0, ofNat 0, ofNat 0, (lit []), ())) fun r => elim (fun p => some (p.2.1, p.2.2.1, p.2.2.2.1, p.2.2.2.2.1, p.1, ())) (fun p => Option.bind (F104 (p.1, ())) fun r => Option.bind (F105 (p.2.2.2.2.2.1, p.2.2.2.2.2.2.1, p.2.2.2.2.2.2.2.1, r.1, ())) fun r_3 => bif !r_3.1 then some (ofNat 0, ofNat 0, ofNat 0, (lit []), false, ()) else some (p.2.2.2.2.2.1, p.2.2.2.2.2.2.1, p.2.2.2.2.2.2.2.1, r.1, true, ())) r else Option.bind (loop B80_0 (r_1.2.1, r_2.1, ofNat 3, ofNat 0, ofNat 0, ofNat 0, ofNat 0, (lit []), ofNat 0, ofNat 0, ofNat 0, (lit []), ())) fun r => elim (fun p => some (p.2.1, p.2.2.1, p.2.2.2.1, p.2.2.2.2.1, p.1, ())) (fun p => Option.bind (F104 (p.1, ())) fun r => Option.bind (F105 (p.2.2.2.2.2.1, p.2.2.2.2.2.2.1, p.2.2.2.2.2.2.2.1, r.1, ())) fun r_3 => bif !r_3.1 then some (ofNat 0, ofNat 0, ofNat 0, (lit []), false, ()) else some (p.2.2.2.2.2.1, p.2.2.2.2.2.2.1, p.2.2.2.2.2.2.2.1, r.1, true, ())) r := by kernel_rfl
theorem F62_eq (x0 : Int) : F62 (x0, ()) =
 bif decide (x0 ≥ ofNat 48) then some (decide (x0 ≤ ofNat 57), ()) else some (false, ()) := by kernel_rfl
theorem B63_0_eq (x0 : ByteArray) (x1 x2 : Int) : B63_0 (x0, x1, x2, ()) =
 bif decide (x2 < ofNat (size x0)) then bif decide (ofNat 0 ≤ x2) && decide (x2 < ofNat (size x0)) then bif decide (bt x0 x2 < ofNat 48) then some (inr (inl (ofNat 0, false, ()))) else bif decide (ofNat 0 ≤ x2) && decide (x2 < ofNat (size x0)) then bif decide (bt x0 x2 > ofNat 57) then some (inr (inl (ofNat 0, false, ()))) else bif decide (ofNat 0 ≤ x2) && decide (x2 < ofNat (size x0)) then some (inl (x0, wrap .i64 (wrap .i64 (ofNat 10 * x1) + wrap .i64 (wrap .u8 (bt x0 x2 - ofNat 48))), wrap .i64 (x2 + ofNat 1), ())) else none else none else none else some (inr (inr (x1, ()))) := by kernel_rfl
theorem F63_eq (x0 : ByteArray) : F63 (x0, ()) =
 bif decide (ofNat (size x0) < ofNat 1) then some (ofNat 0, false, ()) else bif decide (ofNat (size x0) > ofNat 9) then some (ofNat 0, false, ()) else bif decide (ofNat (size x0) > ofNat 1) then bif decide (ofNat 0 < ofNat (size x0)) then bif bt x0 (ofNat 0) == ofNat 48 then some (ofNat 0, false, ()) else Option.bind (loop B63_0 (x0, ofNat 0, ofNat 0, ())) fun r => elim (fun p => some (p.1, p.2.1, ())) (fun p => some (p.1, true, ())) r else none else Option.bind (loop B63_0 (x0, ofNat 0, ofNat 0, ())) fun r => elim (fun p => some (p.1, p.2.1, ())) (fun p => some (p.1, true, ())) r := by kernel_rfl
theorem B47_0_eq (x0 : ByteArray) (x1 x2 : Int) (x3 : List ByteArray) : B47_0 (x0, x1, x2, x3, ()) =
 bif decide (x2 ≤ ofNat (size x0)) then bif x2 == ofNat (size x0) then bif decide (ofNat 0 ≤ x1) && (decide (x1 ≤ x2) && decide (x2 ≤ ofNat (size x0))) then bif decide (length x3 + length [ByteArray.extract x0 (toNat x1) (toNat x2)] ≤ 8796093022208) then some (inl (x0, wrap .i64 (x2 + ofNat 1), wrap .i64 (x2 + ofNat 1), x3 ++ [ByteArray.extract x0 (toNat x1) (toNat x2)], ())) else none else none else bif decide (ofNat 0 ≤ x2) && decide (x2 < ofNat (size x0)) then bif bt x0 x2 == ofNat 46 then bif decide (ofNat 0 ≤ x1) && (decide (x1 ≤ x2) && decide (x2 ≤ ofNat (size x0))) then bif decide (length x3 + length [ByteArray.extract x0 (toNat x1) (toNat x2)] ≤ 8796093022208) then some (inl (x0, wrap .i64 (x2 + ofNat 1), wrap .i64 (x2 + ofNat 1), x3 ++ [ByteArray.extract x0 (toNat x1) (toNat x2)], ())) else none else none else some (inl (x0, x1, wrap .i64 (x2 + ofNat 1), x3, ())) else none else some (inr (x3, ())) := by kernel_rfl
theorem F47_eq (x0 : ByteArray) : F47 (x0, ()) =
 Option.bind (loop B47_0 (x0, ofNat 0, ofNat 0, [], ())) fun r => some (r.1, ()) := by kernel_rfl
theorem F112_eq (x0 : Int) : F112 (x0, ()) =
 bif decide (x0 ≥ ofNat 97) then bif decide (x0 ≤ ofNat 122) then some (true, ()) else bif decide (x0 ≥ ofNat 65) then bif decide (x0 ≤ ofNat 90) then some (true, ()) else some (x0 == ofNat 45, ()) else some (x0 == ofNat 45, ()) else bif decide (x0 ≥ ofNat 65) then bif decide (x0 ≤ ofNat 90) then some (true, ()) else some (x0 == ofNat 45, ()) else some (x0 == ofNat 45, ()) := by kernel_rfl
theorem B75_0_eq (x0 : ByteArray) (x1 : Int) : B75_0 (x0, x1, ()) =
 bif decide (x1 < ofNat (size x0)) then bif decide (ofNat 0 ≤ x1) && decide (x1 < ofNat (size x0)) then Option.bind (F62 (bt x0 x1, ())) fun r => bif !r.1 then some (inr (inl (false, ()))) else some (inl (x0, wrap .i64 (x1 + ofNat 1), ())) else none else some (inr (inr (x0, ()))) := by kernel_rfl
theorem F75_eq (x0 : ByteArray) : F75 (x0, ()) =
 Option.bind (loop B75_0 (x0, ofNat 0, ())) fun r => elim (fun p => some (p.1, ())) (fun p => some (!bl p.1 == [], ())) r := by kernel_rfl
theorem B91_0_eq (x0 : ByteArray) (x1 : Int) : B91_0 (x0, x1, ()) =
 bif decide (x1 < ofNat (size x0)) then bif decide (ofNat 0 ≤ x1) && decide (x1 < ofNat (size x0)) then Option.bind (F62 (bt x0 x1, ())) fun r => bif !r.1 then bif decide (ofNat 0 ≤ x1) && decide (x1 < ofNat (size x0)) then Option.bind (F112 (bt x0 x1, ())) fun r => bif !r.1 then some (inr (inl (false, ()))) else some (inl (x0, wrap .i64 (x1 + ofNat 1), ())) else none else some (inl (x0, wrap .i64 (x1 + ofNat 1), ())) else none else some (inr (inr ())) := by kernel_rfl
theorem F91_eq (x0 : ByteArray) : F91 (x0, ()) =
 bif bl x0 == [] then some (false, ()) else Option.bind (F75 (x0, ())) fun r => bif r.1 then bif decide (ofNat (size x0) > ofNat 1) then bif decide (ofNat 0 < ofNat (size x0)) then bif bt x0 (ofNat 0) == ofNat 48 then some (false, ()) else Option.bind (loop B91_0 (x0, ofNat 0, ())) fun r => elim (fun p => some (p.1, ())) (fun p => some (true, ())) r else none else Option.bind (loop B91_0 (x0, ofNat 0, ())) fun r => elim (fun p => some (p.1, ())) (fun p => some (true, ())) r else Option.bind (loop B91_0 (x0, ofNat 0, ())) fun r => elim (fun p => some (p.1, ())) (fun p => some (true, ())) r := by kernel_rfl
theorem B64_0_eq (x0 : List ByteArray) (x1 : Int) : B64_0 (x0, x1, ()) =
 bif decide (x1 < ofNat (length x0)) then bif decide (ofNat 0 ≤ x1) then Option.bind x0[toNat x1]? fun y => Option.bind (F91 (y, ())) fun r => bif !r.1 then some (inr (inl (false, ()))) else some (inl (x0, wrap .i64 (x1 + ofNat 1), ())) else none else some (inr (inr ())) := by kernel_rfl
theorem F64_eq (x0 x1 x2 : Int) (x3 : ByteArray) : F64 (x0, x1, x2, x3, ()) =
 bif decide (x0 < ofNat 0) then some (false, ()) else bif decide (x1 < ofNat 0) then some (false, ()) else bif decide (x2 < ofNat 0) then some (false, ()) else bif decide ((bif decide (x2 > bif decide (x1 > x0) then x1 else x0) then x2 else bif decide (x1 > x0) then x1 else x0) > ofNat 999999) then some (false, ()) else bif decide (ofNat (size x3) > ofNat 40) then some (false, ()) else bif bl x3 == [] then some (true, ()) else Option.bind (F47 (x3, ())) fun r => Option.bind (loop B64_0 (r.1, ofNat 0, ())) fun r => elim (fun p => some (p.1, ())) (fun p => some (true, ())) r := by kernel_rfl
theorem B37_0_eq (x0 : ByteArray) (x1 x2 x3 : Int) (x4 : ByteArray) (x5 x6 x7 x8 : Int) (x9 : Bool) (x10 x11 x12 : Int) (x13 : ByteArray) (x14 x15 x16 : Int) : B37_0 (x0, x1, x2, x3, x4, x5, x6, x7, x8, x9, x10, x11, x12, x13, x14, x15, x16, ()) =
 bif decide (x1 < ofNat (size x0)) then bif decide (ofNat 0 ≤ x1) && decide (x1 < ofNat (size x0)) then Option.bind (F62 (bt x0 x1, ())) fun r => bif r.1 then some (inl (x0, wrap .i64 (x1 + ofNat 1), x2, x3, x4, x5, x6, x7, x8, x9, x10, x11, x12, x13, x14, x15, x16, ())) else some (inr (x0, x1, x2, x3, x4, x5, x6, x7, x8, x9, x10, x11, x12, x13, x14, x15, x16, ())) else none else some (inr (x0, x1, x2, x3, x4, x5, x6, x7, x8, x9, x10, x11, x12, x13, x14, x15, x16, ())) := by kernel_rfl
theorem B37_1_eq (x0 : ByteArray) (x1 x2 x3 x4 x5 : Int) (x6 : ByteArray) (x7 x8 x9 : Int) : B37_1 (x0, x1, x2, x3, x4, x5, x6, x7, x8, x9, ()) =
 bif decide (x2 < ofNat 3) then bif decide (x1 ≥ ofNat (size x0)) then some (inr (inl (false, ofNat 0, ofNat 0, ofNat 0, (lit []), ()))) else bif decide (ofNat 0 ≤ x1) && decide (x1 < ofNat (size x0)) then bif decide (ofNat 0 ≤ x2) && decide (x2 < ofNat 3) then bif !bt x0 x1 == bt (lit [118, 46, 46]) x2 then some (inr (inl (false, ofNat 0, ofNat 0, ofNat 0, (lit []), ()))) else Option.bind (loop B37_0 (x0, wrap .i64 (x1 + ofNat 1), x2, wrap .i64 (x1 + ofNat 1), x0, x1, bt x0 x1, x2, bt (lit [118, 46, 46]) x2, !bt x0 x1 == bt (lit [118, 46, 46]) x2, x3, x4, x5, x6, x7, x8, x9, ())) fun r => bif decide (ofNat 0 ≤ r.2.2.2.1) && (decide (r.2.2.2.1 ≤ r.2.1) && decide (r.2.1 ≤ ofNat (size r.1))) then Option.bind (F63 (ByteArray.extract r.1 (toNat r.2.2.2.1) (toNat r.2.1), ())) fun r_1 => bif !r_1.2.1 then some (inr (inl (false, ofNat 0, ofNat 0, ofNat 0, (lit []), ()))) else bif r.2.2.1 == ofNat 0 then some (inl (r.1, r.2.1, wrap .i64 (r.2.2.1 + ofNat 1), r.2.2.2.2.2.2.2.2.2.2.1, r.2.2.2.2.2.2.2.2.2.2.2.1, r.2.2.2.2.2.2.2.2.2.2.2.2.1, r.2.2.2.2.2.2.2.2.2.2.2.2.2.1, r_1.1, r.2.2.2.2.2.2.2.2.2.2.2.2.2.2.2.1, r.2.2.2.2.2.2.2.2.2.2.2.2.2.2.2.2.1, ())) else bif r.2.2.1 == ofNat 1 then some (inl (r.1, r.2.1, wrap .i64 (r.2.2.1 + ofNat 1), r.2.2.2.2.2.2.2.2.2.2.1, r.2.2.2.2.2.2.2.2.2.2.2.1, r.2.2.2.2.2.2.2.2.2.2.2.2.1, r.2.2.2.2.2.2.2.2.2.2.2.2.2.1, r.2.2.2.2.2.2.2.2.2.2.2.2.2.2.1, r_1.1, r.2.2.2.2.2.2.2.2.2.2.2.2.2.2.2.2.1, ())) else bif r.2.2.1 == ofNat 2 then some (inl (r.1, r.2.1, wrap .i64 (r.2.2.1 + ofNat 1), r.2.2.2.2.2.2.2.2.2.2.1, r.2.2.2.2.2.2.2.2.2.2.2.1, r.2.2.2.2.2.2.2.2.2.2.2.2.1, r.2.2.2.2.2.2.2.2.2.2.2.2.2.1, r.2.2.2.2.2.2.2.2.2.2.2.2.2.2.1, r.2.2.2.2.2.2.2.2.2.2.2.2.2.2.2.1, r_1.1, ())) else none else none else none else none else some (inr (inr (x0, x1, x3, x4, x5, x6, x7, x8, x9, ()))) := by kernel_rfl
theorem F37_eq (x0 : ByteArray) : F37 (x0, ()) =
 Option.bind (loop B37_1 (x0, ofNat 0, ofNat 0, ofNat 0, ofNat 0, ofNat 0, (lit []), ofNat 0, ofNat 0, ofNat 0, ())) fun r => elim (fun p => some (p.2.1, p.2.2.1, p.2.2.2.1, p.2.2.2.2.1, p.1, ())) (fun p => bif decide (p.2.1 < ofNat (size p.1)) then bif decide (ofNat 0 ≤ p.2.1) && decide (p.2.1 < ofNat (size p.1)) then bif !bt p.1 p.2.1 == ofNat 45 then some (ofNat 0, ofNat 0, ofNat 0, (lit []), false, ()) else bif wrap .i64 (p.2.1 + ofNat 1) == ofNat (size p.1) then some (ofNat 0, ofNat 0, ofNat 0, (lit []), false, ()) else bif decide (ofNat 0 ≤ wrap .i64 (p.2.1 + ofNat 1)) && (decide (wrap .i64 (p.2.1 + ofNat 1) ≤ ofNat (size p.1)) && decide (ofNat (size p.1) ≤ ofNat (size p.1))) then Option.bind (F64 (p.2.2.2.2.2.2.1, p.2.2.2.2.2.2.2.1, p.2.2.2.2.2.2.2.2.1, ByteArray.extract p.1 (toNat (wrap .i64 (p.2.1 + ofNat 1))) (toNat (ofNat (size p.1))), ())) fun r => bif !r.1 then some (ofNat 0, ofNat 0, ofNat 0, (lit []), false, ()) else some (p.2.2.2.2.2.2.1, p.2.2.2.2.2.2.2.1, p.2.2.2.2.2.2.2.2.1, ByteArray.extract p.1 (toNat (wrap .i64 (p.2.1 + ofNat 1))) (toNat (ofNat (size p.1))), true, ()) else none else none else Option.bind (F64 (p.2.2.2.2.2.2.1, p.2.2.2.2.2.2.2.1, p.2.2.2.2.2.2.2.2.1, (lit []), ())) fun r => bif !r.1 then some (ofNat 0, ofNat 0, ofNat 0, (lit []), false, ()) else some (p.2.2.2.2.2.2.1, p.2.2.2.2.2.2.2.1, p.2.2.2.2.2.2.2.2.1, (lit []), true, ())) r := by kernel_rfl
theorem F46_eq (x0 x1 : Int) : F46 (x0, x1, ()) =
 bif decide (x0 < x1) then some (Int.negSucc 0, ()) else bif decide (x0 > x1) then some (ofNat 1, ()) else some (ofNat 0, ()) := by kernel_rfl
theorem F48_eq (x0 x1 : ByteArray) : F48 (x0, x1, ()) =
 Option.bind (F75 (x0, ())) fun r => Option.bind (F75 (x1, ())) fun r_1 => bif r.1 then bif r_1.1 then bif !ofNat (size x0) == ofNat (size x1) then Option.bind (F46 (ofNat (size x0), ofNat (size x1), ())) fun r => some (r.1, ()) else bif !r.1 == r_1.1 then bif r.1 then some (Int.negSucc 0, ()) else some (ofNat 1, ()) else bif Op.bytesLess (bl x0) (bl x1) then some (Int.negSucc 0, ()) else bif !(Op.bytesLess (bl x0) (bl x1) || bl x0 == bl x1) then some (ofNat 1, ()) else some (ofNat 0, ()) else bif !r.1 == r_1.1 then bif r.1 then some (Int.negSucc 0, ()) else some (ofNat 1, ()) else bif Op.bytesLess (bl x0) (bl x1) then some (Int.negSucc 0, ()) else bif !(Op.bytesLess (bl x0) (bl x1) || bl x0 == bl x1) then some (ofNat 1, ()) else some (ofNat 0, ()) else bif !r.1 == r_1.1 then bif r.1 then some (Int.negSucc 0, ()) else some (ofNat 1, ()) else bif Op.bytesLess (bl x0) (bl x1) then some (Int.negSucc 0, ()) else bif !(Op.bytesLess (bl x0) (bl x1) || bl x0 == bl x1) then some (ofNat 1, ()) else some (ofNat 0, ()) := by kernel_rfl
theorem B26_0_eq (x0 x1 x2 x3 : Int) (x4 : ByteArray) (x5 x6 x7 : Int) (x8 : ByteArray) (x9 : List Int) : B26_0 (x0, x1, x2, x3, x4, x5, x6, x7, x8, x9, ()) =
 bif decide (x0 < ofNat 3) then bif decide (ofNat 0 ≤ x0) then Option.bind x9[toNat x0]? fun y => bif !y == ofNat 0 then bif decide (ofNat 0 ≤ x0) then Option.bind x9[toNat x0]? fun y => some (inr (inl (y, ()))) else none else some (inl (wrap .i64 (x0 + ofNat 1), x1, x2, x3, x4, x5, x6, x7, x8, x9, ())) else none else some (inr (inr (x1, x2, x3, x4, x5, x6, x7, x8, ()))) := by kernel_rfl
theorem B26_1_eq (x0 x1 : List ByteArray) (x2 : Int) : B26_1 (x0, x1, x2, ()) =
 bif decide (x2 < ofNat (length x0)) then bif decide (x2 < ofNat (length x1)) then bif decide (ofNat 0 ≤ x2) then Option.bind x0[toNat x2]? fun y => bif decide (ofNat 0 ≤ x2) then Option.bind x1[toNat x2]? fun y_1 => Option.bind (F48 (y, y_1, ())) fun r => bif !r.1 == ofNat 0 then some (inr (inl (r.1, ()))) else some (inl (x0, x1, wrap .i64 (x2 + ofNat 1), ())) else none else none else some (inr (inr (x0, x1, ()))) else some (inr (inr (x0, x1, ()))) := by kernel_rfl
theorem F26_eq (x0 x1 x2 : Int) (x3 : ByteArray) (x4 x5 x6 : Int) (x7 : ByteArray) : F26 (x0, x1, x2, x3, x4, x5, x6, x7, ()) =
 Option.bind (F46 (x0, x4, ())) fun r => Option.bind (F46 (x1, x5, ())) fun r_1 => Option.bind (F46 (x2, x6, ())) fun r_2 => Option.bind (loop B26_0 (ofNat 0, x0, x1, x2, x3, x4, x5, x6, x7, [r.1, r_1.1, r_2.1], ())) fun r => elim (fun p => some (p.1, ())) (fun p => bif bl p.2.2.2.1 == [] then Option.bind (F46 (ofNat (size p.2.2.2.2.2.2.2.1), ofNat (size p.2.2.2.1), ())) fun r => some (wrap .i64 (r.1 * bif decide (wrap .i64 (ofNat (size p.2.2.2.1) + ofNat (size p.2.2.2.2.2.2.2.1)) < ofNat 1) then wrap .i64 (ofNat (size p.2.2.2.1) + ofNat (size p.2.2.2.2.2.2.2.1)) else ofNat 1), ()) else bif bl p.2.2.2.2.2.2.2.1 == [] then Option.bind (F46 (ofNat (size p.2.2.2.2.2.2.2.1), ofNat (size p.2.2.2.1), ())) fun r => some (wrap .i64 (r.1 * bif decide (wrap .i64 (ofNat (size p.2.2.2.1) + ofNat (size p.2.2.2.2.2.2.2.1)) < ofNat 1) then wrap .i64 (ofNat (size p.2.2.2.1) + ofNat (size p.2.2.2.2.2.2.2.1)) else ofNat 1), ()) else Option.bind (F47 (p.2.2.2.1, ())) fun r => Option.bind (F47 (p.2.2.2.2.2.2.2.1, ())) fun r_3 => Option.bind (loop B26_1 (r.1, r_3.1, ofNat 0, ())) fun r => elim (fun p => some (p.1, ())) (fun p => Option.bind (F46 (ofNat (length p.1), ofNat (length p.2.1), ())) fun r => some (r.1, ())) r) r := by kernel_rfl
theorem F58_eq (x0 x1 x2 : Int) (x3 : ByteArray) (x4 x5 x6 : Int) (x7 : ByteArray) (x8 x9 x10 : Bool) : F58 (x0, x1, x2, x3, x4, x5, x6, x7, x8, x9, x10, ()) =
 Option.bind (F26 (x4, x5, x6, x7, x0, x1, x2, x3, ())) fun r => bif !x10 then bif decide (r.1 < ofNat 0) then some (true, ()) else bif r.1 == ofNat 0 then bif x8 then some (true, ()) else some (!x9, ()) else some (false, ()) else some (false, ()) := by kernel_rfl
theorem F59_eq (x0 x1 x2 : Int) (x3 : ByteArray) (x4 x5 x6 : Int) (x7 : ByteArray) (x8 x9 x10 : Bool) (x11 x12 x13 : Int) (x14 : ByteArray) (x15 x16 x17 : Int) (x18 : ByteArray) (x19 x20 x21 : Bool) : F59 (x0, x1, x2, x3, x4, x5, x6, x7, x8, x9, x10, x11, x12, x13, x14, x15, x16, x17, x18, x19, x20, x21, ()) =
 Option.bind (F26 (x0, x1, x2, x3, x11, x12, x13, x14, ())) fun r => bif decide (r.1 < ofNat 0) then some (true, ()) else bif r.1 == ofNat 0 then bif !x8 then some (x19, ()) else some (false, ()) else some (false, ()) := by kernel_rfl
theorem F60_eq (x0 x1 x2 : Int) (x3 : ByteArray) (x4 x5 x6 : Int) (x7 : ByteArray) (x8 x9 x10 : Bool) (x11 x12 x13 : Int) (x14 : ByteArray) (x15 x16 x17 : Int) (x18 : ByteArray) (x19 x20 x21 : Bool) : F60 (x0, x1, x2, x3, x4, x5, x6, x7, x8, x9, x10, x11, x12, x13, x14, x15, x16, x17, x18, x19, x20, x21, ()) =
 bif x10 then some (false, ()) else Option.bind (F26 (x4, x5, x6, x7, x11, x12, x13, x14, ())) fun r => bif decide (r.1 < ofNat 0) then some (true, ()) else bif r.1 == ofNat 0 then bif !x9 then some (x19, ()) else some (false, ()) else some (false, ()) := by kernel_rfl
theorem F61_eq (x0 x1 x2 : Int) (x3 : ByteArray) (x4 x5 x6 : Int) (x7 : ByteArray) (x8 x9 x10 : Bool) (x11 x12 x13 : Int) (x14 : ByteArray) (x15 x16 x17 : Int) (x18 : ByteArray) (x19 x20 x21 : Bool) : F61 (x0, x1, x2, x3, x4, x5, x6, x7, x8, x9, x10, x11, x12, x13, x14, x15, x16, x17, x18, x19, x20, x21, ()) =
 bif x10 then bif x10 then some (!x21, ()) else some (false, ()) else bif x21 then bif x10 then some (!x21, ()) else some (false, ()) else Option.bind (F26 (x4, x5, x6, x7, x15, x16, x17, x18, ())) fun r => bif decide (r.1 > ofNat 0) then some (true, ()) else bif r.1 == ofNat 0 then bif x9 then some (!x20, ()) else some (false, ()) else some (false, ()) := by kernel_rfl
theorem B36_0_eq (x0 : List R7) (x1 x2 : Int) (x3 : List R7) (x4 x5 x6 : Int) (x7 : ByteArray) (x8 x9 x10 : Int) (x11 : ByteArray) (x12 x13 x14 : Bool) : B36_0 (x0, x1, x2, x3, x4, x5, x6, x7, x8, x9, x10, x11, x12, x13, x14, ()) =
 bif decide (x2 > ofNat 0) then bif decide (ofNat 0 ≤ wrap .i64 (x2 - ofNat 1)) then Option.bind x3[toNat (wrap .i64 (x2 - ofNat 1))]? fun y => Option.bind (F59 (x4, x5, x6, x7, x8, x9, x10, x11, x12, x13, x14, y.1, y.2.1, y.2.2.1, y.2.2.2.1, y.2.2.2.2.1, y.2.2.2.2.2.1, y.2.2.2.2.2.2.1, y.2.2.2.2.2.2.2.1, y.2.2.2.2.2.2.2.2.1, y.2.2.2.2.2.2.2.2.2.1, y.2.2.2.2.2.2.2.2.2.2.1, ())) fun r => bif r.1 then some (inl (x0, x1, wrap .i64 (x2 - ofNat 1), x3, x4, x5, x6, x7, x8, x9, x10, x11, x12, x13, x14, ())) else some (inr (x0, x1, x2, x3, x4, x5, x6, x7, x8, x9, x10, x11, x12, x13, x14, ())) else none else some (inr (x0, x1, x2, x3, x4, x5, x6, x7, x8, x9, x10, x11, x12, x13, x14, ())) := by kernel_rfl
theorem B36_1_eq (x0 : List R7) (x1 : Int) (x2 : List R7) : B36_1 (x0, x1, x2, ()) =
 bif decide (x1 < ofNat (length x0)) then bif decide (ofNat 0 ≤ x1) then Option.bind x0[toNat x1]? fun y => Option.bind (F58 (y.1, y.2.1, y.2.2.1, y.2.2.2.1, y.2.2.2.2.1, y.2.2.2.2.2.1, y.2.2.2.2.2.2.1, y.2.2.2.2.2.2.2.1, y.2.2.2.2.2.2.2.2.1, y.2.2.2.2.2.2.2.2.2.1, y.2.2.2.2.2.2.2.2.2.2.1, ())) fun r => bif r.1 then some (inl (x0, wrap .i64 (x1 + ofNat 1), x2, ())) else bif y.2.2.2.2.2.2.2.2.2.2.1 then Option.bind (loop B36_0 (x0, x1, ofNat (length x2), x2, y.1, y.2.1, y.2.2.1, y.2.2.2.1, ofNat 0, ofNat 0, ofNat 0, (lit []), y.2.2.2.2.2.2.2.2.1, false, y.2.2.2.2.2.2.2.2.2.2.1, ())) fun r => bif decide (ofNat 0 ≤ r.2.2.1) && decide (r.2.2.1 ≤ ofNat (length r.2.2.2.1)) then bif decide (0 + length (List.drop 0 (List.take (toNat r.2.2.1) r.2.2.2.1)) ≤ 1599289640401) then bif decide (length ([] ++ List.drop 0 (List.take (toNat r.2.2.1) r.2.2.2.1)) + length [(r.2.2.2.2.1, r.2.2.2.2.2.1, r.2.2.2.2.2.2.1, r.2.2.2.2.2.2.2.1, r.2.2.2.2.2.2.2.2.1, r.2.2.2.2.2.2.2.2.2.1, r.2.2.2.2.2.2.2.2.2.2.1, r.2.2.2.2.2.2.2.2.2.2.2.1, r.2.2.2.2.2.2.2.2.2.2.2.2.1, r.2.2.2.2.2.2.2.2.2.2.2.2.2.1, r.2.2.2.2.2.2.2.2.2.2.2.2.2.2.1, ())] ≤ 1599289640401) then bif decide (ofNat 0 ≤ r.2.2.1) && (decide (r.2.2.1 ≤ ofNat (length r.2.2.2.1)) && decide (ofNat (length r.2.2.2.1) ≤ ofNat (length r.2.2.2.1))) then bif decide (length ([] ++ List.drop 0 (List.take (toNat r.2.2.1) r.2.2.2.1) ++ [(r.2.2.2.2.1, r.2.2.2.2.2.1, r.2.2.2.2.2.2.1, r.2.2.2.2.2.2.2.1, r.2.2.2.2.2.2.2.2.1, r.2.2.2.2.2.2.2.2.2.1, r.2.2.2.2.2.2.2.2.2.2.1, r.2.2.2.2.2.2.2.2.2.2.2.1, r.2.2.2.2.2.2.2.2.2.2.2.2.1, r.2.2.2.2.2.2.2.2.2.2.2.2.2.1, r.2.2.2.2.2.2.2.2.2.2.2.2.2.2.1, ())]) + length (List.drop (toNat r.2.2.1) (List.take (toNat (ofNat (length r.2.2.2.1))) r.2.2.2.1)) ≤ 1599289640401) then some (inl (r.1, wrap .i64 (r.2.1 + ofNat 1), [] ++ List.drop 0 (List.take (toNat r.2.2.1) r.2.2.2.1) ++ [(r.2.2.2.2.1, r.2.2.2.2.2.1, r.2.2.2.2.2.2.1, r.2.2.2.2.2.2.2.1, r.2.2.2.2.2.2.2.2.1, r.2.2.2.2.2.2.2.2.2.1, r.2.2.2.2.2.2.2.2.2.2.1, r.2.2.2.2.2.2.2.2.2.2.2.1, r.2.2.2.2.2.2.2.2.2.2.2.2.1, r.2.2.2.2.2.2.2.2.2.2.2.2.2.1, r.2.2.2.2.2.2.2.2.2.2.2.2.2.2.1, ())] ++ List.drop (toNat r.2.2.1) (List.take (toNat (ofNat (length r.2.2.2.1))) r.2.2.2.1), ())) else none else none else none else none else none else Option.bind (loop B36_0 (x0, x1, ofNat (length x2), x2, y.1, y.2.1, y.2.2.1, y.2.2.2.1, y.2.2.2.2.1, y.2.2.2.2.2.1, y.2.2.2.2.2.2.1, y.2.2.2.2.2.2.2.1, y.2.2.2.2.2.2.2.2.1, y.2.2.2.2.2.2.2.2.2.1, y.2.2.2.2.2.2.2.2.2.2.1, ())) fun r => bif decide (ofNat 0 ≤ r.2.2.1) && decide (r.2.2.1 ≤ ofNat (length r.2.2.2.1)) then bif decide (0 + length (List.drop 0 (List.take (toNat r.2.2.1) r.2.2.2.1)) ≤ 1599289640401) then bif decide (length ([] ++ List.drop 0 (List.take (toNat r.2.2.1) r.2.2.2.1)) + length [(r.2.2.2.2.1, r.2.2.2.2.2.1, r.2.2.2.2.2.2.1, r.2.2.2.2.2.2.2.1, r.2.2.2.2.2.2.2.2.1, r.2.2.2.2.2.2.2.2.2.1, r.2.2.2.2.2.2.2.2.2.2.1, r.2.2.2.2.2.2.2.2.2.2.2.1, r.2.2.2.2.2.2.2.2.2.2.2.2.1, r.2.2.2.2.2.2.2.2.2.2.2.2.2.1, r.2.2.2.2.2.2.2.2.2.2.2.2.2.2.1, ())] ≤ 1599289640401) then bif decide (ofNat 0 ≤ r.2.2.1) && (decide (r.2.2.1 ≤ ofNat (length r.2.2.2.1)) && decide (ofNat (length r.2.2.2.1) ≤ ofNat (length r.2.2.2.1))) then bif decide (length ([] ++ List.drop 0 (List.take (toNat r.2.2.1) r.2.2.2.1) ++ [(r.2.2.2.2.1, r.2.2.2.2.2.1, r.2.2.2.2.2.2.1, r.2.2.2.2.2.2.2.1, r.2.2.2.2.2.2.2.2.1, r.2.2.2.2.2.2.2.2.2.1, r.2.2.2.2.2.2.2.2.2.2.1, r.2.2.2.2.2.2.2.2.2.2.2.1, r.2.2.2.2.2.2.2.2.2.2.2.2.1, r.2.2.2.2.2.2.2.2.2.2.2.2.2.1, r.2.2.2.2.2.2.2.2.2.2.2.2.2.2.1, ())]) + length (List.drop (toNat r.2.2.1) (List.take (toNat (ofNat (length r.2.2.2.1))) r.2.2.2.1)) ≤ 1599289640401) then some (inl (r.1, wrap .i64 (r.2.1 + ofNat 1), [] ++ List.drop 0 (List.take (toNat r.2.2.1) r.2.2.2.1) ++ [(r.2.2.2.2.1, r.2.2.2.2.2.1, r.2.2.2.2.2.2.1, r.2.2.2.2.2.2.2.1, r.2.2.2.2.2.2.2.2.1, r.2.2.2.2.2.2.2.2.2.1, r.2.2.2.2.2.2.2.2.2.2.1, r.2.2.2.2.2.2.2.2.2.2.2.1, r.2.2.2.2.2.2.2.2.2.2.2.2.1, r.2.2.2.2.2.2.2.2.2.2.2.2.2.1, r.2.2.2.2.2.2.2.2.2.2.2.2.2.2.1, ())] ++ List.drop (toNat r.2.2.1) (List.take (toNat (ofNat (length r.2.2.2.1))) r.2.2.2.1), ())) else none else none else none else none else none else none else some (inr (x2, ())) := by kernel_rfl
theorem B36_2_eq (x0 : Int) (x1 x2 : List R7) : B36_2 (x0, x1, x2, ()) =
 bif decide (x0 < ofNat (length x1)) then bif decide (wrap .i64 (ofNat (length x2) - ofNat 1) < ofNat 0) then bif decide (ofNat 0 ≤ x0) then Option.bind x1[toNat x0]? fun y => bif decide (length x2 + length [(y.1, y.2.1, y.2.2.1, y.2.2.2.1, y.2.2.2.2.1, y.2.2.2.2.2.1, y.2.2.2.2.2.2.1, y.2.2.2.2.2.2.2.1, y.2.2.2.2.2.2.2.2.1, y.2.2.2.2.2.2.2.2.2.1, y.2.2.2.2.2.2.2.2.2.2.1, ())] ≤ 1599289640401) then some (inl (wrap .i64 (x0 + ofNat 1), x1, x2 ++ [(y.1, y.2.1, y.2.2.1, y.2.2.2.1, y.2.2.2.2.1, y.2.2.2.2.2.1, y.2.2.2.2.2.2.1, y.2.2.2.2.2.2.2.1, y.2.2.2.2.2.2.2.2.1, y.2.2.2.2.2.2.2.2.2.1, y.2.2.2.2.2.2.2.2.2.2.1, ())], ())) else none else none else bif decide (ofNat 0 ≤ wrap .i64 (ofNat (length x2) - ofNat 1)) && decide (wrap .i64 (ofNat (length x2) - ofNat 1) < ofNat (length x2)) then Option.bind x2[toNat (wrap .i64 (ofNat (length x2) - ofNat 1))]? fun y => bif decide (ofNat 0 ≤ x0) then Option.bind x1[toNat x0]? fun y_1 => Option.bind (F60 (y.1, y.2.1, y.2.2.1, y.2.2.2.1, y.2.2.2.2.1, y.2.2.2.2.2.1, y.2.2.2.2.2.2.1, y.2.2.2.2.2.2.2.1, y.2.2.2.2.2.2.2.2.1, y.2.2.2.2.2.2.2.2.2.1, y.2.2.2.2.2.2.2.2.2.2.1, y_1.1, y_1.2.1, y_1.2.2.1, y_1.2.2.2.1, y_1.2.2.2.2.1, y_1.2.2.2.2.2.1, y_1.2.2.2.2.2.2.1, y_1.2.2.2.2.2.2.2.1, y_1.2.2.2.2.2.2.2.2.1, y_1.2.2.2.2.2.2.2.2.2.1, y_1.2.2.2.2.2.2.2.2.2.2.1, ())) fun r => bif r.1 then bif decide (ofNat 0 ≤ x0) then Option.bind x1[toNat x0]? fun y => bif decide (length x2 + length [(y.1, y.2.1, y.2.2.1, y.2.2.2.1, y.2.2.2.2.1, y.2.2.2.2.2.1, y.2.2.2.2.2.2.1, y.2.2.2.2.2.2.2.1, y.2.2.2.2.2.2.2.2.1, y.2.2.2.2.2.2.2.2.2.1, y.2.2.2.2.2.2.2.2.2.2.1, ())] ≤ 1599289640401) then some (inl (wrap .i64 (x0 + ofNat 1), x1, x2 ++ [(y.1, y.2.1, y.2.2.1, y.2.2.2.1, y.2.2.2.2.1, y.2.2.2.2.2.1, y.2.2.2.2.2.2.1, y.2.2.2.2.2.2.2.1, y.2.2.2.2.2.2.2.2.1, y.2.2.2.2.2.2.2.2.2.1, y.2.2.2.2.2.2.2.2.2.2.1, ())], ())) else none else none else bif decide (ofNat 0 ≤ x0) then Option.bind x1[toNat x0]? fun y => bif decide (ofNat 0 ≤ wrap .i64 (ofNat (length x2) - ofNat 1)) && decide (wrap .i64 (ofNat (length x2) - ofNat 1) < ofNat (length x2)) then Option.bind x2[toNat (wrap .i64 (ofNat (length x2) - ofNat 1))]? fun y_2 => Option.bind (F61 (y.1, y.2.1, y.2.2.1, y.2.2.2.1, y.2.2.2.2.1, y.2.2.2.2.2.1, y.2.2.2.2.2.2.1, y.2.2.2.2.2.2.2.1, y.2.2.2.2.2.2.2.2.1, y.2.2.2.2.2.2.2.2.2.1, y.2.2.2.2.2.2.2.2.2.2.1, y_2.1, y_2.2.1, y_2.2.2.1, y_2.2.2.2.1, y_2.2.2.2.2.1, y_2.2.2.2.2.2.1, y_2.2.2.2.2.2.2.1, y_2.2.2.2.2.2.2.2.1, y_2.2.2.2.2.2.2.2.2.1, y_2.2.2.2.2.2.2.2.2.2.1, y_2.2.2.2.2.2.2.2.2.2.2.1, ())) fun r => bif r.1 then bif decide (ofNat 0 ≤ x0) then Option.bind x1[toNat x0]? fun y => bif decide (ofNat 0 ≤ x0) then Option.bind x1[toNat x0]? fun y_3 => bif decide (ofNat 0 ≤ x0) then Option.bind x1[toNat x0]? fun y_4 => bif decide (ofNat 0 ≤ wrap .i64 (ofNat (length x2) - ofNat 1)) && decide (wrap .i64 (ofNat (length x2) - ofNat 1) < ofNat (length x2)) then Option.bind x2[toNat (wrap .i64 (ofNat (length x2) - ofNat 1))]? fun y_5 => bif decide (ofNat 0 ≤ wrap .i64 (ofNat (length x2) - ofNat 1)) && decide (wrap .i64 (ofNat (length x2) - ofNat 1) < ofNat (length (List.set x2 (toNat (wrap .i64 (ofNat (length x2) - ofNat 1))) (y_5.1, y_5.2.1, y_5.2.2.1, y_5.2.2.2.1, y.2.2.2.2.1, y.2.2.2.2.2.1, y.2.2.2.2.2.2.1, y.2.2.2.2.2.2.2.1, y_5.2.2.2.2.2.2.2.2.1, y_5.2.2.2.2.2.2.2.2.2.1, y_5.2.2.2.2.2.2.2.2.2.2.1, ())))) then Option.bind (List.set x2 (toNat (wrap .i64 (ofNat (length x2) - ofNat 1))) (y_5.1, y_5.2.1, y_5.2.2.1, y_5.2.2.2.1, y.2.2.2.2.1, y.2.2.2.2.2.1, y.2.2.2.2.2.2.1, y.2.2.2.2.2.2.2.1, y_5.2.2.2.2.2.2.2.2.1, y_5.2.2.2.2.2.2.2.2.2.1, y_5.2.2.2.2.2.2.2.2.2.2.1, ()))[toNat (wrap .i64 (ofNat (length x2) - ofNat 1))]? fun y_6 => bif decide (ofNat 0 ≤ wrap .i64 (ofNat (length x2) - ofNat 1)) && decide (wrap .i64 (ofNat (length x2) - ofNat 1) < ofNat (length (List.set (List.set x2 (toNat (wrap .i64 (ofNat (length x2) - ofNat 1))) (y_5.1, y_5.2.1, y_5.2.2.1, y_5.2.2.2.1, y.2.2.2.2.1, y.2.2.2.2.2.1, y.2.2.2.2.2.2.1, y.2.2.2.2.2.2.2.1, y_5.2.2.2.2.2.2.2.2.1, y_5.2.2.2.2.2.2.2.2.2.1, y_5.2.2.2.2.2.2.2.2.2.2.1, ())) (toNat (wrap .i64 (ofNat (length x2) - ofNat 1))) (y_6.1, y_6.2.1, y_6.2.2.1, y_6.2.2.2.1, y_6.2.2.2.2.1, y_6.2.2.2.2.2.1, y_6.2.2.2.2.2.2.1, y_6.2.2.2.2.2.2.2.1, y_6.2.2.2.2.2.2.2.2.1, y_3.2.2.2.2.2.2.2.2.2.1, y_6.2.2.2.2.2.2.2.2.2.2.1, ())))) then Option.bind (List.set (List.set x2 (toNat (wrap .i64 (ofNat (length x2) - ofNat 1))) (y_5.1, y_5.2.1, y_5.2.2.1, y_5.2.2.2.1, y.2.2.2.2.1, y.2.2.2.2.2.1, y.2.2.2.2.2.2.1, y.2.2.2.2.2.2.2.1, y_5.2.2.2.2.2.2.2.2.1, y_5.2.2.2.2.2.2.2.2.2.1, y_5.2.2.2.2.2.2.2.2.2.2.1, ())) (toNat (wrap .i64 (ofNat (length x2) - ofNat 1))) (y_6.1, y_6.2.1, y_6.2.2.1, y_6.2.2.2.1, y_6.2.2.2.2.1, y_6.2.2.2.2.2.1, y_6.2.2.2.2.2.2.1, y_6.2.2.2.2.2.2.2.1, y_6.2.2.2.2.2.2.2.2.1, y_3.2.2.2.2.2.2.2.2.2.1, y_6.2.2.2.2.2.2.2.2.2.2.1, ()))[toNat (wrap .i64 (ofNat (length x2) - ofNat 1))]? fun y_7 => some (inl (wrap .i64 (x0 + ofNat 1), x1, List.set (List.set (List.set x2 (toNat (wrap .i64 (ofNat (length x2) - ofNat 1))) (y_5.1, y_5.2.1, y_5.2.2.1, y_5.2.2.2.1, y.2.2.2.2.1, y.2.2.2.2.2.1, y.2.2.2.2.2.2.1, y.2.2.2.2.2.2.2.1, y_5.2.2.2.2.2.2.2.2.1, y_5.2.2.2.2.2.2.2.2.2.1, y_5.2.2.2.2.2.2.2.2.2.2.1, ())) (toNat (wrap .i64 (ofNat (length x2) - ofNat 1))) (y_6.1, y_6.2.1, y_6.2.2.1, y_6.2.2.2.1, y_6.2.2.2.2.1, y_6.2.2.2.2.2.1, y_6.2.2.2.2.2.2.1, y_6.2.2.2.2.2.2.2.1, y_6.2.2.2.2.2.2.2.2.1, y_3.2.2.2.2.2.2.2.2.2.1, y_6.2.2.2.2.2.2.2.2.2.2.1, ())) (toNat (wrap .i64 (ofNat (length x2) - ofNat 1))) (y_7.1, y_7.2.1, y_7.2.2.1, y_7.2.2.2.1, y_7.2.2.2.2.1, y_7.2.2.2.2.2.1, y_7.2.2.2.2.2.2.1, y_7.2.2.2.2.2.2.2.1, y_7.2.2.2.2.2.2.2.2.1, y_7.2.2.2.2.2.2.2.2.2.1, y_4.2.2.2.2.2.2.2.2.2.2.1, ()), ())) else none else none else none else none else none else none else some (inl (wrap .i64 (x0 + ofNat 1), x1, x2, ())) else none else none else none else none else some (inr (x2, ())) := by kernel_rfl
theorem F36_eq (x0 : List R7) : F36 (x0, ()) =
 Option.bind (loop B36_1 (x0, ofNat 0, [], ())) fun r => Option.bind (loop B36_2 (ofNat 0, r.1, [], ())) fun r => some (r.1, ()) := by kernel_rfl
theorem F29_eq (x0 x1 : Int) : F29 (x0, x1, ()) =
 bif !decide (x1 = ofNat 0) then bif decide (Int.tmod x0 x1 < ofNat 0) then some (wrap .i64 (Int.tmod x0 x1 + x1), ()) else some (Int.tmod x0 x1, ()) else none := by kernel_rfl
theorem F54_eq (x0 x1 : Int) : F54 (x0, x1, ()) =
 bif !decide (x1 = ofNat 0) then bif decide (Int.tmod x0 x1 < ofNat 0) then some (wrap .i64 (Int.tmod x0 x1 + x1), ()) else some (Int.tmod x0 x1, ()) else none := by kernel_rfl
theorem B32_0_eq (x0 x1 x2 x3 x4 : Int) (x5 : ByteArray) (x6 x7 x8 : Int) (x9 : ByteArray) (x10 : List ByteArray) : B32_0 (x0, x1, x2, x3, x4, x5, x6, x7, x8, x9, x10, ()) =
 bif decide (x1 < Int.tmod x0 (ofNat 4)) then bif decide (x1 > ofNat 0) then bif fitsS x9 (lit [46]) then bif decide (ofNat 0 ≤ Int.tmod (wrap .i64 (Int.tdiv x0 (ofNat 4))) (ofNat 13)) then Option.bind x10[toNat (Int.tmod (wrap .i64 (Int.tdiv x0 (ofNat 4))) (ofNat 13))]? fun y => bif fitsS (x9 ++ (lit [46])) y then some (inl (wrap .i64 (Int.tdiv x0 (ofNat 13)), wrap .i64 (x1 + ofNat 1), x2, x3, x4, x5, x6, x7, x8, x9 ++ (lit [46]) ++ y, x10, ())) else none else none else none else bif decide (ofNat 0 ≤ Int.tmod (wrap .i64 (Int.tdiv x0 (ofNat 4))) (ofNat 13)) then Option.bind x10[toNat (Int.tmod (wrap .i64 (Int.tdiv x0 (ofNat 4))) (ofNat 13))]? fun y => bif fitsS x9 y then some (inl (wrap .i64 (Int.tdiv x0 (ofNat 13)), wrap .i64 (x1 + ofNat 1), x2, x3, x4, x5, x6, x7, x8, x9 ++ y, x10, ())) else none else none else some (inr (x2, x3, x4, x5, x6, x7, x8, x9, ())) := by kernel_rfl
theorem F32_eq (x0 x1 : Int) : F32 (x0, x1, ()) =
 Option.bind (F54 (x0, ofNat 1099511627776, ())) fun r => bif Int.tmod (wrap .i64 (Int.tdiv r.1 (ofNat 48))) (ofNat 9) == ofNat 0 then Option.bind (F54 (x1, ofNat 1099511627776, ())) fun r_1 => Option.bind (loop B32_0 (r_1.1, ofNat 0, ofNat 0, ofNat 0, ofNat 0, (lit []), wrap .i64 (ofNat 999999 - Int.tmod (wrap .i64 (Int.tdiv r.1 (ofNat 432))) (ofNat 2)), Int.tmod (wrap .i64 (Int.tdiv r.1 (ofNat 3))) (ofNat 4), Int.tmod (wrap .i64 (Int.tdiv r.1 (ofNat 12))) (ofNat 4), (lit []), [(lit [48]), (lit [49]), (lit [49, 48]), (lit [50]), (lit [97]), (lit [114, 99]), (lit [114, 99, 49]), (lit [65]), (lit [45]), (lit [48, 97]), (lit [97, 108, 112, 104, 97]), (lit [57, 57, 57, 57, 57, 57, 57, 57, 57, 57]), (lit [50, 48, 50, 48, 48, 49, 48, 49, 48, 48, 48, 48, 48, 48, 45, 97, 98, 99, 100, 101, 102, 48, 49, 50, 51, 52, 53])], ())) fun r => bif decide (ofNat (size r.2.2.2.2.2.2.2.1) > ofNat 40) then some (r.2.2.2.2.1, r.2.2.2.2.2.1, r.2.2.2.2.2.2.1, (lit [114, 99, 46, 49]), ()) else some (r.2.2.2.2.1, r.2.2.2.2.2.1, r.2.2.2.2.2.2.1, r.2.2.2.2.2.2.2.1, ()) else bif Int.tmod (wrap .i64 (Int.tdiv r.1 (ofNat 48))) (ofNat 9) == ofNat 1 then Option.bind (F54 (x1, ofNat 1099511627776, ())) fun r_1 => Option.bind (loop B32_0 (r_1.1, ofNat 0, ofNat 0, ofNat 0, ofNat 0, (lit []), Int.tmod r.1 (ofNat 3), wrap .i64 (ofNat 999999 - Int.tmod (wrap .i64 (Int.tdiv r.1 (ofNat 432))) (ofNat 2)), Int.tmod (wrap .i64 (Int.tdiv r.1 (ofNat 12))) (ofNat 4), (lit []), [(lit [48]), (lit [49]), (lit [49, 48]), (lit [50]), (lit [97]), (lit [114, 99]), (lit [114, 99, 49]), (lit [65]), (lit [45]), (lit [48, 97]), (lit [97, 108, 112, 104, 97]), (lit [57, 57, 57, 57, 57, 57, 57, 57, 57, 57]), (lit [50, 48, 50, 48, 48, 49, 48, 49, 48, 48, 48, 48, 48, 48, 45, 97, 98, 99, 100, 101, 102, 48, 49, 50, 51, 52, 53])], ())) fun r => bif decide (ofNat (size r.2.2.2.2.2.2.2.1) > ofNat 40) then some (r.2.2.2.2.1, r.2.2.2.2.2.1, r.2.2.2.2.2.2.1, (lit [114, 99, 46, 49]), ()) else some (r.2.2.2.2.1, r.2.2.2.2.2.1, r.2.2.2.2.2.2.1, r.2.2.2.2.2.2.2.1, ()) else bif Int.tmod (wrap .i64 (Int.tdiv r.1 (ofNat 48))) (ofNat 9) == ofNat 2 then Option.bind (F54 (x1, ofNat 1099511627776, ())) fun r_1 => Option.bind (loop B32_0 (r_1.1, ofNat 0, ofNat 0, ofNat 0, ofNat 0, (lit []), Int.tmod r.1 (ofNat 3), Int.tmod (wrap .i64 (Int.tdiv r.1 (ofNat 3))) (ofNat 4), wrap .i64 (ofNat 999999 - Int.tmod (wrap .i64 (Int.tdiv r.1 (ofNat 432))) (ofNat 2)), (lit []), [(lit [48]), (lit [49]), (lit [49, 48]), (lit [50]), (lit [97]), (lit [114, 99]), (lit [114, 99, 49]), (lit [65]), (lit [45]), (lit [48, 97]), (lit [97, 108, 112, 104, 97]), (lit [57, 57, 57, 57, 57, 57, 57, 57, 57, 57]), (lit [50, 48, 50, 48, 48, 49, 48, 49, 48, 48, 48, 48, 48, 48, 45, 97, 98, 99, 100, 101, 102, 48, 49, 50, 51, 52, 53])], ())) fun r => bif decide (ofNat (size r.2.2.2.2.2.2.2.1) > ofNat 40) then some (r.2.2.2.2.1, r.2.2.2.2.2.1, r.2.2.2.2.2.2.1, (lit [114, 99, 46, 49]), ()) else some (r.2.2.2.2.1, r.2.2.2.2.2.1, r.2.2.2.2.2.2.1, r.2.2.2.2.2.2.2.1, ()) else Option.bind (F54 (x1, ofNat 1099511627776, ())) fun r_1 => Option.bind (loop B32_0 (r_1.1, ofNat 0, ofNat 0, ofNat 0, ofNat 0, (lit []), Int.tmod r.1 (ofNat 3), Int.tmod (wrap .i64 (Int.tdiv r.1 (ofNat 3))) (ofNat 4), Int.tmod (wrap .i64 (Int.tdiv r.1 (ofNat 12))) (ofNat 4), (lit []), [(lit [48]), (lit [49]), (lit [49, 48]), (lit [50]), (lit [97]), (lit [114, 99]), (lit [114, 99, 49]), (lit [65]), (lit [45]), (lit [48, 97]), (lit [97, 108, 112, 104, 97]), (lit [57, 57, 57, 57, 57, 57, 57, 57, 57, 57]), (lit [50, 48, 50, 48, 48, 49, 48, 49, 48, 48, 48, 48, 48, 48, 45, 97, 98, 99, 100, 101, 102, 48, 49, 50, 51, 52, 53])], ())) fun r => bif decide (ofNat (size r.2.2.2.2.2.2.2.1) > ofNat 40) then some (r.2.2.2.2.1, r.2.2.2.2.2.1, r.2.2.2.2.2.2.1, (lit [114, 99, 46, 49]), ()) else some (r.2.2.2.2.1, r.2.2.2.2.2.1, r.2.2.2.2.2.2.1, r.2.2.2.2.2.2.2.1, ()) := by kernel_rfl
theorem B19_0_eq (x0 x1 : List R7) (x2 : Int) : B19_0 (x0, x1, x2, ()) =
 bif decide (x2 < ofNat (length x0)) then bif decide (ofNat 0 ≤ x2) then Option.bind x0[toNat x2]? fun y => bif decide (ofNat 0 ≤ x2) then Option.bind x1[toNat x2]? fun y_1 => bif !(y.1 == y_1.1 && (y.2.1 == y_1.2.1 && (y.2.2.1 == y_1.2.2.1 && bl y.2.2.2.1 == bl y_1.2.2.2.1)) && (y.2.2.2.2.1 == y_1.2.2.2.2.1 && (y.2.2.2.2.2.1 == y_1.2.2.2.2.2.1 && (y.2.2.2.2.2.2.1 == y_1.2.2.2.2.2.2.1 && bl y.2.2.2.2.2.2.2.1 == bl y_1.2.2.2.2.2.2.2.1)) && (y.2.2.2.2.2.2.2.2.1 == y_1.2.2.2.2.2.2.2.2.1 && (y.2.2.2.2.2.2.2.2.2.1 == y_1.2.2.2.2.2.2.2.2.2.1 && y.2.2.2.2.2.2.2.2.2.2.1 == y_1.2.2.2.2.2.2.2.2.2.2.1)))) then some (inr (inl (false, ()))) else some (inl (x0, x1, wrap .i64 (x2 + ofNat 1), ())) else none else none else some (inr (inr ())) := by kernel_rfl
theorem F19_eq (x0 x1 : List R7) : F19 (x0, x1, ()) =
 bif !ofNat (length x0) == ofNat (length x1) then some (false, ()) else Option.bind (loop B19_0 (x0, x1, ofNat 0, ())) fun r => elim (fun p => some (p.1, ())) (fun p => some (true, ())) r := by kernel_rfl
theorem F21_eq (x0 x1 : List R7) : F21 (x0, x1, ()) =
 bif decide (0 + length x0 ≤ 1599289640401) then bif decide (length ([] ++ x0) + length x1 ≤ 1599289640401) then Option.bind (F36 ([] ++ x0 ++ x1, ())) fun r => some (r.1, ()) else none else none := by kernel_rfl
theorem F27_eq  : F27 (()) =
 some (ofNat 0, ofNat 0, ofNat 0, (lit [48]), ()) := by kernel_rfl
theorem B22_0_eq (x0 : List R7) (x1 : Int) (x2 : List R7) (x3 x4 x5 : Int) (x6 : ByteArray) (x7 x8 x9 : Int) (x10 : ByteArray) (x11 x12 x13 : Bool) : B22_0 (x0, x1, x2, x3, x4, x5, x6, x7, x8, x9, x10, x11, x12, x13, ()) =
 bif decide (x1 < ofNat (length x0)) then bif decide (ofNat 0 ≤ x1) then Option.bind x0[toNat x1]? fun y => bif decide (ofNat 0 ≤ x1) then Option.bind x0[toNat x1]? fun y_1 => bif decide (length x2 + length [(x3, x4, x5, x6, y.1, y.2.1, y.2.2.1, y.2.2.2.1, x11, y_1.2.2.2.2.2.2.2.2.1, false, ())] ≤ 1599289640401) then bif decide (ofNat 0 ≤ x1) then Option.bind x0[toNat x1]? fun y_2 => bif y_2.2.2.2.2.2.2.2.2.2.2.1 then Option.bind (F36 (x2 ++ [(x3, x4, x5, x6, y.1, y.2.1, y.2.2.1, y.2.2.2.1, x11, y_1.2.2.2.2.2.2.2.2.1, false, ())], ())) fun r => some (inr (inl (r.1, ()))) else bif decide (ofNat 0 ≤ x1) then Option.bind x0[toNat x1]? fun y_3 => bif decide (ofNat 0 ≤ x1) then Option.bind x0[toNat x1]? fun y_4 => some (inl (x0, wrap .i64 (x1 + ofNat 1), x2 ++ [(x3, x4, x5, x6, y.1, y.2.1, y.2.2.1, y.2.2.2.1, x11, y_1.2.2.2.2.2.2.2.2.1, false, ())], y_3.2.2.2.2.1, y_3.2.2.2.2.2.1, y_3.2.2.2.2.2.2.1, y_3.2.2.2.2.2.2.2.1, x7, x8, x9, x10, y_4.2.2.2.2.2.2.2.2.2.1, x12, x13, ())) else none else none else none else none else none else none else some (inr (inr (x2, x3, x4, x5, x6, x7, x8, x9, x10, x11, x12, x13, ()))) := by kernel_rfl
theorem F22_eq (x0 : List R7) : F22 (x0, ()) =
 Option.bind (F27 ()) fun r => Option.bind (loop B22_0 (x0, ofNat 0, [], r.1, r.2.1, r.2.2.1, r.2.2.2.1, ofNat 0, ofNat 0, ofNat 0, (lit []), false, false, true, ())) fun r => elim (fun p => some (p.1, ())) (fun p => bif decide (length p.1 + length [(p.2.1, p.2.2.1, p.2.2.2.1, p.2.2.2.2.1, p.2.2.2.2.2.1, p.2.2.2.2.2.2.1, p.2.2.2.2.2.2.2.1, p.2.2.2.2.2.2.2.2.1, p.2.2.2.2.2.2.2.2.2.1, p.2.2.2.2.2.2.2.2.2.2.1, p.2.2.2.2.2.2.2.2.2.2.2.1, ())] ≤ 1599289640401) then Option.bind (F36 (p.1 ++ [(p.2.1, p.2.2.1, p.2.2.2.1, p.2.2.2.2.1, p.2.2.2.2.2.1, p.2.2.2.2.2.2.1, p.2.2.2.2.2.2.2.1, p.2.2.2.2.2.2.2.2.1, p.2.2.2.2.2.2.2.2.2.1, p.2.2.2.2.2.2.2.2.2.2.1, p.2.2.2.2.2.2.2.2.2.2.2.1, ())], ())) fun r => some (r.1, ()) else none) r := by kernel_rfl
theorem F20_eq (x0 x1 : List R7) : F20 (x0, x1, ()) =
 Option.bind (F22 (x0, ())) fun r => Option.bind (F22 (x1, ())) fun r_1 => Option.bind (F21 (r.1, r_1.1, ())) fun r => Option.bind (F22 (r.1, ())) fun r => some (r.1, ()) := by kernel_rfl
theorem FX55_eq (X : Shape.D sh55 → Option (Shape.D out55)) (x0 : Int) : FX55 X (x0, ()) =
 bif decide (x0 ≥ ofNat 10) then Option.bind (X (wrap .i64 (Int.tdiv x0 (ofNat 10)), ())) fun r => Option.bind (X (Int.tmod x0 (ofNat 10), ())) fun r_1 => bif fitsS r.1 r_1.1 then some (r.1 ++ r_1.1, ()) else none else some (bstr [wrap .u8 (wrap .i64 (ofNat 48 + x0))], ()) := by kernel_rfl
theorem F33_eq (x0 x1 x2 : Int) (x3 : ByteArray) : F33 (x0, x1, x2, x3, ()) =
 Option.bind (F55 (x0, ())) fun r => bif fitsS (lit [118]) r.1 then bif fitsS ((lit [118]) ++ r.1) (lit [46]) then Option.bind (F55 (x1, ())) fun r_1 => bif fitsS ((lit [118]) ++ r.1 ++ (lit [46])) r_1.1 then bif fitsS ((lit [118]) ++ r.1 ++ (lit [46]) ++ r_1.1) (lit [46]) then Option.bind (F55 (x2, ())) fun r_2 => bif fitsS ((lit [118]) ++ r.1 ++ (lit [46]) ++ r_1.1 ++ (lit [46])) r_2.1 then bif bl x3 == [] then some ((lit [118]) ++ r.1 ++ (lit [46]) ++ r_1.1 ++ (lit [46]) ++ r_2.1, ()) else bif fitsS ((lit [118]) ++ r.1 ++ (lit [46]) ++ r_1.1 ++ (lit [46]) ++ r_2.1) (lit [45]) then bif fitsS ((lit [118]) ++ r.1 ++ (lit [46]) ++ r_1.1 ++ (lit [46]) ++ r_2.1 ++ (lit [45])) x3 then some ((lit [118]) ++ r.1 ++ (lit [46]) ++ r_1.1 ++ (lit [46]) ++ r_2.1 ++ (lit [45]) ++ x3, ()) else none else none else none else none else none else none else none := by kernel_rfl
theorem F76_eq (x0 : Int) : F76 (x0, ()) =
 Option.bind (F32 (wrap .i64 (Int.tdiv x0 (ofNat 3)), wrap .i64 (Int.tdiv x0 (ofNat 5)), ())) fun r => Option.bind (F33 (r.1, r.2.1, r.2.2.1, r.2.2.2.1, ())) fun r => some (r.1, ()) := by kernel_rfl
theorem F49_eq (x0 : Int) : F49 (x0, ()) =
 Option.bind (F29 (x0, ofNat 1125899906842624, ())) fun r => Option.bind (F76 (r.1, ())) fun r_1 => bif Int.tmod r.1 (ofNat 16) == ofNat 0 then some ((lit [42]), ()) else bif Int.tmod r.1 (ofNat 16) == ofNat 1 then bif decide (ofNat 0 ≤ Int.tmod (wrap .i64 (Int.tdiv r.1 (ofNat 16))) (ofNat 4)) && (decide (Int.tmod (wrap .i64 (Int.tdiv r.1 (ofNat 16))) (ofNat 4) ≤ wrap .i64 (Int.tmod (wrap .i64 (Int.tdiv r.1 (ofNat 16))) (ofNat 4) + ofNat 1)) && decide (wrap .i64 (Int.tmod (wrap .i64 (Int.tdiv r.1 (ofNat 16))) (ofNat 4) + ofNat 1) ≤ ofNat 4)) then bif fitsS (lit [118]) (ByteArray.extract (lit [48, 49, 50, 51]) (toNat (Int.tmod (wrap .i64 (Int.tdiv r.1 (ofNat 16))) (ofNat 4))) (toNat (wrap .i64 (Int.tmod (wrap .i64 (Int.tdiv r.1 (ofNat 16))) (ofNat 4) + ofNat 1)))) then bif fitsS ((lit [118]) ++ ByteArray.extract (lit [48, 49, 50, 51]) (toNat (Int.tmod (wrap .i64 (Int.tdiv r.1 (ofNat 16))) (ofNat 4))) (toNat (wrap .i64 (Int.tmod (wrap .i64 (Int.tdiv r.1 (ofNat 16))) (ofNat 4) + ofNat 1)))) (lit [46, 120]) then some ((lit [118]) ++ ByteArray.extract (lit [48, 49, 50, 51]) (toNat (Int.tmod (wrap .i64 (Int.tdiv r.1 (ofNat 16))) (ofNat 4))) (toNat (wrap .i64 (Int.tmod (wrap .i64 (Int.tdiv r.1 (ofNat 16))) (ofNat 4) + ofNat 1))) ++ (lit [46, 120]), ()) else none else none else none else bif Int.tmod r.1 (ofNat 16) == ofNat 2 then bif decide (ofNat 0 ≤ Int.tmod (wrap .i64 (Int.tdiv r.1 (ofNat 16))) (ofNat 4)) && (decide (Int.tmod (wrap .i64 (Int.tdiv r.1 (ofNat 16))) (ofNat 4) ≤ wrap .i64 (Int.tmod (wrap .i64 (Int.tdiv r.1 (ofNat 16))) (ofNat 4) + ofNat 1)) && decide (wrap .i64 (Int.tmod (wrap .i64 (Int.tdiv r.1 (ofNat 16))) (ofNat 4) + ofNat 1) ≤ ofNat 4)) then bif fitsS (lit [118, 49, 46]) (ByteArray.extract (lit [48, 49, 50, 51]) (toNat (Int.tmod (wrap .i64 (Int.tdiv r.1 (ofNat 16))) (ofNat 4))) (toNat (wrap .i64 (Int.tmod (wrap .i64 (Int.tdiv r.1 (ofNat 16))) (ofNat 4) + ofNat 1)))) then bif fitsS ((lit [118, 49, 46]) ++ ByteArray.extract (lit [48, 49, 50, 51]) (toNat (Int.tmod (wrap .i64 (Int.tdiv r.1 (ofNat 16))) (ofNat 4))) (toNat (wrap .i64 (Int.tmod (wrap .i64 (Int.tdiv r.1 (ofNat 16))) (ofNat 4) + ofNat 1)))) (lit [46, 120]) then some ((lit [118, 49, 46]) ++ ByteArray.extract (lit [48, 49, 50, 51]) (toNat (Int.tmod (wrap .i64 (Int.tdiv r.1 (ofNat 16))) (ofNat 4))) (toNat (wrap .i64 (Int.tmod (wrap .i64 (Int.tdiv r.1 (ofNat 16))) (ofNat 4) + ofNat 1))) ++ (lit [46, 120]), ()) else none else none else none else bif Int.tmod r.1 (ofNat 16) == ofNat 3 then bif fitsS r_1.1 (lit [32, 45, 32]) then Option.bind (F76 (wrap .i64 (Int.tdiv r.1 (ofNat 7)), ())) fun r => bif fitsS (r_1.1 ++ (lit [32, 45, 32])) r.1 then some (r_1.1 ++ (lit [32, 45, 32]) ++ r.1, ()) else none else none else bif Int.tmod r.1 (ofNat 16) == ofNat 4 then some ((lit [118, 57, 57, 57, 57, 57, 57, 46, 120]), ()) else bif decide (ofNat 0 ≤ wrap .i64 (Int.tmod r.1 (ofNat 16) - ofNat 5)) then Option.bind [(lit []), (lit [61]), (lit [33, 61]), (lit [62]), (lit [62, 61]), (lit [60]), (lit [60, 61]), (lit [94]), (lit [94]), (lit [126]), (lit [126])][toNat (wrap .i64 (Int.tmod r.1 (ofNat 16) - ofNat 5))]? fun y => bif fitsS y r_1.1 then some (y ++ r_1.1, ()) else none else none := by kernel_rfl
theorem B28_0_eq (x0 : List Int) (x1 : ByteArray) (x2 : Int) : B28_0 (x0, x1, x2, ()) =
 bif decide (x2 < ofNat (length x0)) then bif decide (x2 < ofNat 6) then bif decide (x2 > ofNat 0) then bif decide (ofNat 0 ≤ x2) then Option.bind x0[toNat x2]? fun y => Option.bind (F29 (y, ofNat 5, ())) fun r => bif decide (ofNat 0 ≤ r.1) then Option.bind [(lit [32]), (lit [32, 32]), (lit [32, 124, 124, 32]), (lit [124, 124]), (lit [32])][toNat r.1]? fun y => bif fitsS x1 y then bif decide (ofNat 0 ≤ x2) then Option.bind x0[toNat x2]? fun y_1 => Option.bind (F29 (y_1, ofNat 1125899906842624, ())) fun r => Option.bind (F49 (wrap .i64 (Int.tdiv r.1 (ofNat 5)), ())) fun r => bif fitsS (x1 ++ y) r.1 then some (inl (x0, x1 ++ y ++ r.1, wrap .i64 (x2 + ofNat 1), ())) else none else none else none else none else none else bif decide (ofNat 0 ≤ x2) then Option.bind x0[toNat x2]? fun y => Option.bind (F29 (y, ofNat 1125899906842624, ())) fun r => Option.bind (F49 (wrap .i64 (Int.tdiv r.1 (ofNat 5)), ())) fun r => bif fitsS x1 r.1 then some (inl (x0, x1 ++ r.1, wrap .i64 (x2 + ofNat 1), ())) else none else none else some (inr (x1, ())) else some (inr (x1, ())) := by kernel_rfl
theorem F28_eq (x0 : List Int) : F28 (x0, ()) =
 Option.bind (loop B28_0 (x0, (lit []), ofNat 0, ())) fun r => bif bl r.1 == [] then some ((lit [42]), ()) else some (r.1, ()) := by kernel_rfl
theorem B84_0_eq (x0 : ByteArray) (x1 : Int) : B84_0 (x0, x1, ()) =
 bif decide (x1 < ofNat (size x0)) then bif decide (ofNat 0 ≤ x1) && decide (x1 < ofNat (size x0)) then bif bt x0 x1 == ofNat 32 then some (inl (x0, wrap .i64 (x1 + ofNat 1), ())) else some (inr (x0, x1, ())) else none else some (inr (x0, x1, ())) := by kernel_rfl
theorem F84_eq (x0 : ByteArray) (x1 : Int) : F84 (x0, x1, ()) =
 Option.bind (loop B84_0 (x0, x1, ())) fun r => some (r.1, r.2.1, ()) := by kernel_rfl
theorem B85_0_eq (x0 : Int) (x1 : ByteArray) (x2 : Int) : B85_0 (x0, x1, x2, ()) =
 bif decide (x2 < ofNat (size x1)) then bif decide (ofNat 0 ≤ x2) && decide (x2 < ofNat (size x1)) then bif !bt x1 x2 == ofNat 32 then bif decide (ofNat 0 ≤ x2) && decide (x2 < ofNat (size x1)) then bif !bt x1 x2 == ofNat 124 then some (inl (x0, x1, wrap .i64 (x2 + ofNat 1), ())) else some (inr (x0, x1, x2, ())) else none else some (inr (x0, x1, x2, ())) else none else some (inr (x0, x1, x2, ())) := by kernel_rfl
theorem F85_eq (x0 : ByteArray) (x1 : Int) : F85 (x0, x1, ()) =
 Option.bind (loop B85_0 (x1, x0, x1, ())) fun r => bif decide (ofNat 0 ≤ r.1) && (decide (r.1 ≤ r.2.2.1) && decide (r.2.2.1 ≤ ofNat (size r.2.1))) then Option.bind (F84 (r.2.1, r.2.2.1, ())) fun r_1 => some (ByteArray.extract r.2.1 (toNat r.1) (toNat r.2.2.1), r.1, r_1.1, r_1.2.1, ()) else none := by kernel_rfl
theorem B145_0_eq (x0 x1 x2 x3 : Int) (x4 : ByteArray) (x5 x6 x7 : Int) (x8 : ByteArray) (x9 x10 x11 : Bool) (x12 x13 x14 : Int) (x15 : ByteArray) (x16 x17 x18 : Int) (x19 : ByteArray) (x20 x21 x22 : Bool) (x23 x24 x25 : Int) : B145_0 (x0, x1, x2, x3, x4, x5, x6, x7, x8, x9, x10, x11, x12, x13, x14, x15, x16, x17, x18, x19, x20, x21, x22, x23, x24, x25, ()) =
 bif decide (x0 ≥ ofNat 0) then bif x0 == ofNat 0 then bif x23 == ofNat 999999 then some (inl (wrap .i64 (x0 - ofNat 1), x1, x2, x3, x4, x5, x6, x7, x8, x9, x10, x11, x12, x13, x14, x15, x16, x17, x18, x19, x20, x21, x22, x23, x24, x25, ())) else some (inr (x0, x1, x2, x3, x4, x5, x6, x7, x8, x9, x10, x11, x12, x13, x14, x15, x16, x17, x18, x19, x20, x21, x22, x23, x24, x25, ())) else bif x0 == ofNat 1 then bif x24 == ofNat 999999 then some (inl (wrap .i64 (x0 - ofNat 1), x1, x2, x3, x4, x5, x6, x7, x8, x9, x10, x11, x12, x13, x14, x15, x16, x17, x18, x19, x20, x21, x22, x23, x24, x25, ())) else some (inr (x0, x1, x2, x3, x4, x5, x6, x7, x8, x9, x10, x11, x12, x13, x14, x15, x16, x17, x18, x19, x20, x21, x22, x23, x24, x25, ())) else bif x0 == ofNat 2 then bif x25 == ofNat 999999 then some (inl (wrap .i64 (x0 - ofNat 1), x1, x2, x3, x4, x5, x6, x7, x8, x9, x10, x11, x12, x13, x14, x15, x16, x17, x18, x19, x20, x21, x22, x23, x24, x25, ())) else some (inr (x0, x1, x2, x3, x4, x5, x6, x7, x8, x9, x10, x11, x12, x13, x14, x15, x16, x17, x18, x19, x20, x21, x22, x23, x24, x25, ())) else none else some (inr (x0, x1, x2, x3, x4, x5, x6, x7, x8, x9, x10, x11, x12, x13, x14, x15, x16, x17, x18, x19, x20, x21, x22, x23, x24, x25, ())) := by kernel_rfl
theorem B145_1_eq (x0 x1 x2 x3 x4 : Int) (x5 : ByteArray) (x6 x7 x8 : Int) (x9 : ByteArray) (x10 x11 x12 : Bool) (x13 x14 x15 : Int) (x16 : ByteArray) (x17 x18 x19 : Int) (x20 : ByteArray) (x21 x22 x23 : Bool) (x24 x25 x26 : Int) : B145_1 (x0, x1, x2, x3, x4, x5, x6, x7, x8, x9, x10, x11, x12, x13, x14, x15, x16, x17, x18, x19, x20, x21, x22, x23, x24, x25, x26, ()) =
 bif decide (x1 < ofNat 3) then bif x1 == x0 then bif x1 == ofNat 0 then bif x1 == ofNat 0 then some (inl (x0, wrap .i64 (x1 + ofNat 1), x2, x3, x4, x5, x6, x7, x8, x9, x10, x11, x12, x13, x14, x15, x16, x17, x18, x19, x20, x21, x22, x23, wrap .i64 (x24 + ofNat 1), x25, x26, ())) else bif x1 == ofNat 1 then some (inl (x0, wrap .i64 (x1 + ofNat 1), x2, x3, x4, x5, x6, x7, x8, x9, x10, x11, x12, x13, x14, x15, x16, x17, x18, x19, x20, x21, x22, x23, x24, wrap .i64 (x24 + ofNat 1), x26, ())) else bif x1 == ofNat 2 then some (inl (x0, wrap .i64 (x1 + ofNat 1), x2, x3, x4, x5, x6, x7, x8, x9, x10, x11, x12, x13, x14, x15, x16, x17, x18, x19, x20, x21, x22, x23, x24, x25, wrap .i64 (x24 + ofNat 1), ())) else none else bif x1 == ofNat 1 then bif x1 == ofNat 0 then some (inl (x0, wrap .i64 (x1 + ofNat 1), x2, x3, x4, x5, x6, x7, x8, x9, x10, x11, x12, x13, x14, x15, x16, x17, x18, x19, x20, x21, x22, x23, wrap .i64 (x25 + ofNat 1), x25, x26, ())) else bif x1 == ofNat 1 then some (inl (x0, wrap .i64 (x1 + ofNat 1), x2, x3, x4, x5, x6, x7, x8, x9, x10, x11, x12, x13, x14, x15, x16, x17, x18, x19, x20, x21, x22, x23, x24, wrap .i64 (x25 + ofNat 1), x26, ())) else bif x1 == ofNat 2 then some (inl (x0, wrap .i64 (x1 + ofNat 1), x2, x3, x4, x5, x6, x7, x8, x9, x10, x11, x12, x13, x14, x15, x16, x17, x18, x19, x20, x21, x22, x23, x24, x25, wrap .i64 (x25 + ofNat 1), ())) else none else bif x1 == ofNat 2 then bif x1 == ofNat 0 then some (inl (x0, wrap .i64 (x1 + ofNat 1), x2, x3, x4, x5, x6, x7, x8, x9, x10, x11, x12, x13, x14, x15, x16, x17, x18, x19, x20, x21, x22, x23, wrap .i64 (x26 + ofNat 1), x25, x26, ())) else bif x1 == ofNat 1 then some (inl (x0, wrap .i64 (x1 + ofNat 1), x2, x3, x4, x5, x6, x7, x8, x9, x10, x11, x12, x13, x14, x15, x16, x17, x18, x19, x20, x21, x22, x23, x24, wrap .i64 (x26 + ofNat 1), x26, ())) else bif x1 == ofNat 2 then some (inl (x0, wrap .i64 (x1 + ofNat 1), x2, x3, x4, x5, x6, x7, x8, x9, x10, x11, x12, x13, x14, x15, x16, x17, x18, x19, x20, x21, x22, x23, x24, x25, wrap .i64 (x26 + ofNat 1), ())) else none else none else bif decide (x1 > x0) then bif x1 == ofNat 0 then some (inl (x0, wrap .i64 (x1 + ofNat 1), x2, x3, x4, x5, x6, x7, x8, x9, x10, x11, x12, x13, x14, x15, x16, x17, x18, x19, x20, x21, x22, x23, ofNat 0, x25, x26, ())) else bif x1 == ofNat 1 then some (inl (x0, wrap .i64 (x1 + ofNat 1), x2, x3, x4, x5, x6, x7, x8, x9, x10, x11, x12, x13, x14, x15, x16, x17, x18, x19, x20, x21, x22, x23, x24, ofNat 0, x26, ())) else bif x1 == ofNat 2 then some (inl (x0, wrap .i64 (x1 + ofNat 1), x2, x3, x4, x5, x6, x7, x8, x9, x10, x11, x12, x13, x14, x15, x16, x17, x18, x19, x20, x21, x22, x23, x24, x25, ofNat 0, ())) else none else some (inl (x0, wrap .i64 (x1 + ofNat 1), x2, x3, x4, x5, x6, x7, x8, x9, x10, x11, x12, x13, x14, x15, x16, x17, x18, x19, x20, x21, x22, x23, x24, x25, x26, ())) else some (inr (x2, x3, x4, x5, x6, x7, x8, x9, x10, x11, x12, x13, x14, x15, x16, x17, x18, x19, x20, x21, x22, x23, x24, x25, x26, ())) := by kernel_rfl
theorem F145_eq (x0 x1 x2 : Int) (x3 : ByteArray) (x4 : Int) : F145 (x0, x1, x2, x3, x4, ()) =
 Option.bind (loop B145_0 (x4, ofNat 0, ofNat 0, ofNat 0, (lit []), ofNat 0, ofNat 0, ofNat 0, (lit []), false, false, false, x0, x1, x2, x3, ofNat 0, ofNat 0, ofNat 0, (lit []), false, false, false, x0, x1, x2, ())) fun r => bif decide (r.1 < ofNat 0) then some (r.2.2.2.2.2.2.2.2.2.2.2.2.1, r.2.2.2.2.2.2.2.2.2.2.2.2.2.1, r.2.2.2.2.2.2.2.2.2.2.2.2.2.2.1, r.2.2.2.2.2.2.2.2.2.2.2.2.2.2.2.1, r.2.2.2.2.2.2.2.2.2.2.2.2.2.2.2.2.1, r.2.2.2.2.2.2.2.2.2.2.2.2.2.2.2.2.2.1, r.2.2.2.2.2.2.2.2.2.2.2.2.2.2.2.2.2.2.1, r.2.2.2.2.2.2.2.2.2.2.2.2.2.2.2.2.2.2.2.1, r.2.2.2.2.2.2.2.2.2.2.2.2.2.2.2.2.2.2.2.2.1, r.2.2.2.2.2.2.2.2.2.2.2.2.2.2.2.2.2.2.2.2.2.1, true, ()) else Option.bind (loop B145_1 (r.1, ofNat 0, r.2.1, r.2.2.1, r.2.2.2.1, r.2.2.2.2.1, r.2.2.2.2.2.1, r.2.2.2.2.2.2.1, r.2.2.2.2.2.2.2.1, r.2.2.2.2.2.2.2.2.1, r.2.2.2.2.2.2.2.2.2.1, r.2.2.2.2.2.2.2.2.2.2.1, r.2.2.2.2.2.2.2.2.2.2.2.1, r.2.2.2.2.2.2.2.2.2.2.2.2.1, r.2.2.2.2.2.2.2.2.2.2.2.2.2.1, r.2.2.2.2.2.2.2.2.2.2.2.2.2.2.1, r.2.2.2.2.2.2.2.2.2.2.2.2.2.2.2.1, r.2.2.2.2.2.2.2.2.2.2.2.2.2.2.2.2.1, r.2.2.2.2.2.2.2.2.2.2.2.2.2.2.2.2.2.1, r.2.2.2.2.2.2.2.2.2.2.2.2.2.2.2.2.2.2.1, r.2.2.2.2.2.2.2.2.2.2.2.2.2.2.2.2.2.2.2.1, r.2.2.2.2.2.2.2.2.2.2.2.2.2.2.2.2.2.2.2.2.1, r.2.2.2.2.2.2.2.2.2.2.2.2.2.2.2.2.2.2.2.2.2.1, r.2.2.2.2.2.2.2.2.2.2.2.2.2.2.2.2.2.2.2.2.2.2.1, r.2.2.2.2.2.2.2.2.2.2.2.2.2.2.2.2.2.2.2.2.2.2.2.1, r.2.2.2.2.2.2.2.2.2.2.2.2.2.2.2.2.2.2.2.2.2.2.2.2.1, r.2.2.2.2.2.2.2.2.2.2.2.2.2.2.2.2.2.2.2.2.2.2.2.2.2.1, ())) fun r => some (r.2.2.2.2.2.2.2.2.2.2.2.1, r.2.2.2.2.2.2.2.2.2.2.2.2.1, r.2.2.2.2.2.2.2.2.2.2.2.2.2.1, r.2.2.2.2.2.2.2.2.2.2.2.2.2.2.1, r.2.2.2.2.2.2.2.2.2.2.2.2.2.2.2.2.2.2.2.2.2.2.1, r.2.2.2.2.2.2.2.2.2.2.2.2.2.2.2.2.2.2.2.2.2.2.2.1, r.2.2.2.2.2.2.2.2.2.2.2.2.2.2.2.2.2.2.2.2.2.2.2.2.1, (lit [48]), r.2.2.2.2.2.2.2.2.2.2.2.2.2.2.2.2.2.2.2.1, r.2.2.2.2.2.2.2.2.2.2.2.2.2.2.2.2.2.2.2.2.1, r.2.2.2.2.2.2.2.2.2.2.2.2.2.2.2.2.2.2.2.2.2.1, ()) := by kernel_rfl
theorem B107_0_eq (x0 : ByteArray) (x1 x2 x3 x4 : Int) (x5 : ByteArray) (x6 x7 x8 : Int) (x9 : ByteArray) (x10 x11 x12 : Bool) : B107_0 (x0, x1, x2, x3, x4, x5, x6, x7, x8, x9, x10, x11, x12, ()) =
 bif decide (x1 < ofNat (size x0)) then bif decide (ofNat 0 ≤ x1) && decide (x1 < ofNat (size x0)) then bif !bt x0 x1 == ofNat 46 then some (inl (x0, wrap .i64 (x1 + ofNat 1), x2, x3, x4, x5, x6, x7, x8, x9, x10, x11, x12, ())) else some (inr (x0, x1, x2, x3, x4, x5, x6, x7, x8, x9, x10, x11, x12, ())) else none else some (inr (x0, x1, x2, x3, x4, x5, x6, x7, x8, x9, x10, x11, x12, ())) := by kernel_rfl
theorem F107_eq (x0 : ByteArray) : F107 (x0, ()) =
 bif decide (ofNat (size x0) < ofNat 4) then some (ofNat 0, ofNat 0, ofNat 0, (lit []), ofNat 0, ofNat 0, ofNat 0, (lit []), false, false, false, false, ()) else bif decide (ofNat 0 < ofNat (size x0)) then bif !bt x0 (ofNat 0) == ofNat 118 then some (ofNat 0, ofNat 0, ofNat 0, (lit []), ofNat 0, ofNat 0, ofNat 0, (lit []), false, false, false, false, ()) else bif decide (ofNat 0 ≤ wrap .i64 (ofNat (size x0) - ofNat 2)) && (decide (wrap .i64 (ofNat (size x0) - ofNat 2) ≤ ofNat (size x0)) && decide (ofNat (size x0) ≤ ofNat (size x0))) then bif !bl (ByteArray.extract x0 (toNat (wrap .i64 (ofNat (size x0) - ofNat 2))) (toNat (ofNat (size x0)))) == [46, 120] then some (ofNat 0, ofNat 0, ofNat 0, (lit []), ofNat 0, ofNat 0, ofNat 0, (lit []), false, false, false, false, ()) else bif decide (ofNat 1 ≤ wrap .i64 (ofNat (size x0) - ofNat 2)) && decide (wrap .i64 (ofNat (size x0) - ofNat 2) ≤ ofNat (size x0)) then Option.bind (loop B107_0 (ByteArray.extract x0 1 (toNat (wrap .i64 (ofNat (size x0) - ofNat 2))), ofNat 0, ofNat 0, ofNat 0, ofNat 0, (lit []), ofNat 0, ofNat 0, ofNat 0, (lit []), false, false, false, ())) fun r => bif decide (ofNat 0 ≤ r.2.1) && decide (r.2.1 ≤ ofNat (size r.1)) then Option.bind (F63 (ByteArray.extract r.1 0 (toNat r.2.1), ())) fun r_1 => bif r.2.1 == ofNat (size r.1) then Option.bind (F145 (r_1.1, ofNat 0, ofNat 0, (lit [48]), ofNat 0, ())) fun r => bif r_1.2.1 then some (r.1, r.2.1, r.2.2.1, r.2.2.2.1, r.2.2.2.2.1, r.2.2.2.2.2.1, r.2.2.2.2.2.2.1, r.2.2.2.2.2.2.2.1, r.2.2.2.2.2.2.2.2.1, r.2.2.2.2.2.2.2.2.2.1, r.2.2.2.2.2.2.2.2.2.2.1, decide (r_1.1 ≤ ofNat 999999), ()) else some (r.1, r.2.1, r.2.2.1, r.2.2.2.1, r.2.2.2.2.1, r.2.2.2.2.2.1, r.2.2.2.2.2.2.1, r.2.2.2.2.2.2.2.1, r.2.2.2.2.2.2.2.2.1, r.2.2.2.2.2.2.2.2.2.1, r.2.2.2.2.2.2.2.2.2.2.1, false, ()) else bif decide (ofNat 0 ≤ wrap .i64 (r.2.1 + ofNat 1)) && (decide (wrap .i64 (r.2.1 + ofNat 1) ≤ ofNat (size r.1)) && decide (ofNat (size r.1) ≤ ofNat (size r.1))) then Option.bind (F63 (ByteArray.extract r.1 (toNat (wrap .i64 (r.2.1 + ofNat 1))) (toNat (ofNat (size r.1))), ())) fun r => Option.bind (F145 (r_1.1, r.1, ofNat 0, (lit [48]), ofNat 1, ())) fun r_2 => bif r_1.2.1 then bif r.2.1 then some (r_2.1, r_2.2.1, r_2.2.2.1, r_2.2.2.2.1, r_2.2.2.2.2.1, r_2.2.2.2.2.2.1, r_2.2.2.2.2.2.2.1, r_2.2.2.2.2.2.2.2.1, r_2.2.2.2.2.2.2.2.2.1, r_2.2.2.2.2.2.2.2.2.2.1, r_2.2.2.2.2.2.2.2.2.2.2.1, decide ((bif decide (r.1 > r_1.1) then r.1 else r_1.1) ≤ ofNat 999999), ()) else some (r_2.1, r_2.2.1, r_2.2.2.1, r_2.2.2.2.1, r_2.2.2.2.2.1, r_2.2.2.2.2.2.1, r_2.2.2.2.2.2.2.1, r_2.2.2.2.2.2.2.2.1, r_2.2.2.2.2.2.2.2.2.1, r_2.2.2.2.2.2.2.2.2.2.1, r_2.2.2.2.2.2.2.2.2.2.2.1, false, ()) else some (r_2.1, r_2.2.1, r_2.2.2.1, r_2.2.2.2.1, r_2.2.2.2.2.1, r_2.2.2.2.2.2.1, r_2.2.2.2.2.2.2.1, r_2.2.2.2.2.2.2.2.1, r_2.2.2.2.2.2.2.2.2.1, r_2.2.2.2.2.2.2.2.2.2.1, r_2.2.2.2.2.2.2.2.2.2.2.1, false, ()) else none else none else none else none else none := by kernel_rfl
theorem F108_eq (x0 : ByteArray) (x1 x2 x3 : Int) (x4 : ByteArray) : F108 (x0, x1, x2, x3, x4, ()) =
 bif bl x0 == [] then bif bl x0 == [] then some ([(x1, x2, x3, x4, x1, x2, x3, x4, false, true, false, ())], ()) else bif bl x0 == [33, 61] then Option.bind (F22 ([(x1, x2, x3, x4, x1, x2, x3, x4, false, true, false, ())], ())) fun r => some (r.1, ()) else bif bl x0 == [62] then some ([(x1, x2, x3, x4, ofNat 0, ofNat 0, ofNat 0, (lit []), true, false, true, ())], ()) else bif bl x0 == [62, 61] then some ([(x1, x2, x3, x4, ofNat 0, ofNat 0, ofNat 0, (lit []), false, false, true, ())], ()) else bif bl x0 == [60] then Option.bind (F27 ()) fun r => some ([(r.1, r.2.1, r.2.2.1, r.2.2.2.1, x1, x2, x3, x4, false, false, false, ())], ()) else bif bl x0 == [60, 61] then Option.bind (F27 ()) fun r => some ([(r.1, r.2.1, r.2.2.1, r.2.2.2.1, x1, x2, x3, x4, false, true, false, ())], ()) else bif bl x0 == [126] then Option.bind (F145 (x1, x2, x3, x4, ofNat 1, ())) fun r => some ([(r.1, r.2.1, r.2.2.1, r.2.2.2.1, r.2.2.2.2.1, r.2.2.2.2.2.1, r.2.2.2.2.2.2.1, r.2.2.2.2.2.2.2.1, r.2.2.2.2.2.2.2.2.1, r.2.2.2.2.2.2.2.2.2.1, r.2.2.2.2.2.2.2.2.2.2.1, ())], ()) else bif decide (x1 > ofNat 0) then Option.bind (F145 (x1, x2, x3, x4, ofNat 0, ())) fun r => some ([(r.1, r.2.1, r.2.2.1, r.2.2.2.1, r.2.2.2.2.1, r.2.2.2.2.2.1, r.2.2.2.2.2.2.1, r.2.2.2.2.2.2.2.1, r.2.2.2.2.2.2.2.2.1, r.2.2.2.2.2.2.2.2.2.1, r.2.2.2.2.2.2.2.2.2.2.1, ())], ()) else bif decide (x2 > ofNat 0) then Option.bind (F145 (x1, x2, x3, x4, ofNat 1, ())) fun r => some ([(r.1, r.2.1, r.2.2.1, r.2.2.2.1, r.2.2.2.2.1, r.2.2.2.2.2.1, r.2.2.2.2.2.2.1, r.2.2.2.2.2.2.2.1, r.2.2.2.2.2.2.2.2.1, r.2.2.2.2.2.2.2.2.2.1, r.2.2.2.2.2.2.2.2.2.2.1, ())], ()) else Option.bind (F145 (x1, x2, x3, x4, ofNat 2, ())) fun r => some ([(r.1, r.2.1, r.2.2.1, r.2.2.2.1, r.2.2.2.2.1, r.2.2.2.2.2.1, r.2.2.2.2.2.2.1, r.2.2.2.2.2.2.2.1, r.2.2.2.2.2.2.2.2.1, r.2.2.2.2.2.2.2.2.2.1, r.2.2.2.2.2.2.2.2.2.2.1, ())], ()) else bif bl x0 == [61] then some ([(x1, x2, x3, x4, x1, x2, x3, x4, false, true, false, ())], ()) else bif bl x0 == [33, 61] then Option.bind (F22 ([(x1, x2, x3, x4, x1, x2, x3, x4, false, true, false, ())], ())) fun r => some (r.1, ()) else bif bl x0 == [62] then some ([(x1, x2, x3, x4, ofNat 0, ofNat 0, ofNat 0, (lit []), true, false, true, ())], ()) else bif bl x0 == [62, 61] then some ([(x1, x2, x3, x4, ofNat 0, ofNat 0, ofNat 0, (lit []), false, false, true, ())], ()) else bif bl x0 == [60] then Option.bind (F27 ()) fun r => some ([(r.1, r.2.1, r.2.2.1, r.2.2.2.1, x1, x2, x3, x4, false, false, false, ())], ()) else bif bl x0 == [60, 61] then Option.bind (F27 ()) fun r => some ([(r.1, r.2.1, r.2.2.1, r.2.2.2.1, x1, x2, x3, x4, false, true, false, ())], ()) else bif bl x0 == [126] then Option.bind (F145 (x1, x2, x3, x4, ofNat 1, ())) fun r => some ([(r.1, r.2.1, r.2.2.1, r.2.2.2.1, r.2.2.2.2.1, r.2.2.2.2.2.1, r.2.2.2.2.2.2.1, r.2.2.2.2.2.2.2.1, r.2.2.2.2.2.2.2.2.1, r.2.2.2.2.2.2.2.2.2.1, r.2.2.2.2.2.2.2.2.2.2.1, ())], ()) else bif decide (x1 > ofNat 0) then Option.bind (F145 (x1, x2, x3, x4, ofNat 0, ())) fun r => some ([(r.1, r.2.1, r.2.2.1, r.2.2.2.1, r.2.2.2.2.1, r.2.2.2.2.2.1, r.2.2.2.2.2.2.1, r.2.2.2.2.2.2.2.1, r.2.2.2.2.2.2.2.2.1, r.2.2.2.2.2.2.2.2.2.1, r.2.2.2.2.2.2.2.2.2.2.1, ())], ()) else bif decide (x2 > ofNat 0) then Option.bind (F145 (x1, x2, x3, x4, ofNat 1, ())) fun r => some ([(r.1, r.2.1, r.2.2.1, r.2.2.2.1, r.2.2.2.2.1, r.2.2.2.2.2.1, r.2.2.2.2.2.2.1, r.2.2.2.2.2.2.2.1, r.2.2.2.2.2.2.2.2.1, r.2.2.2.2.2.2.2.2.2.1, r.2.2.2.2.2.2.2.2.2.2.1, ())], ()) else Option.bind (F145 (x1, x2, x3, x4, ofNat 2, ())) fun r => some ([(r.1, r.2.1, r.2.2.1, r.2.2.2.1, r.2.2.2.2.1, r.2.2.2.2.2.1, r.2.2.2.2.2.2.1, r.2.2.2.2.2.2.2.1, r.2.2.2.2.2.2.2.2.1, r.2.2.2.2.2.2.2.2.2.1, r.2.2.2.2.2.2.2.2.2.2.1, ())], ()) := by kernel_rfl
theorem B86_0_eq (x0 : ByteArray) (x1 : Int) (x2 : List ByteArray) : B86_0 (x0, x1, x2, ()) =
 bif decide (x1 < ofNat (length x2)) then bif decide (ofNat 0 ≤ x1) then Option.bind x2[toNat x1]? fun y => bif decide (ofNat (size x0) < ofNat (size y)) then some (inl (x0, wrap .i64 (x1 + ofNat 1), x2, ())) else bif decide (ofNat 0 ≤ ofNat (size y)) && decide (ofNat (size y) ≤ ofNat (size x0)) then bif decide (ofNat 0 ≤ x1) then Option.bind x2[toNat x1]? fun y_1 => bif !bl (ByteArray.extract x0 0 (toNat (ofNat (size y)))) == bl y_1 then some (inl (x0, wrap .i64 (x1 + ofNat 1), x2, ())) else bif decide (ofNat 0 ≤ ofNat (size y)) && (decide (ofNat (size y) ≤ ofNat (size x0)) && decide (ofNat (size x0) ≤ ofNat (size x0))) then Option.bind (F37 (ByteArray.extract x0 (toNat (ofNat (size y))) (toNat (ofNat (size x0))), ())) fun r => bif !r.2.2.2.2.1 then some (inr (inl ([], false, false, ()))) else bif decide (ofNat 0 ≤ x1) then Option.bind x2[toNat x1]? fun y => Option.bind (F108 (y, r.1, r.2.1, r.2.2.1, r.2.2.2.1, ())) fun r => Option.bind (F36 (r.1, ())) fun r => bif decide (ofNat 0 ≤ x1) then Option.bind x2[toNat x1]? fun y => some (inr (inl (r.1, bl y == [], true, ()))) else none else none else none else none else none else none else some (inr (inr ())) := by kernel_rfl
theorem F86_eq (x0 : ByteArray) : F86 (x0, ()) =
 bif bl x0 == [42] then Option.bind (F22 ([], ())) fun r => some (r.1, false, true, ()) else Option.bind (F107 (x0, ())) fun r => bif r.2.2.2.2.2.2.2.2.2.2.2.1 then Option.bind (F36 ([(r.1, r.2.1, r.2.2.1, r.2.2.2.1, r.2.2.2.2.1, r.2.2.2.2.2.1, r.2.2.2.2.2.2.1, r.2.2.2.2.2.2.2.1, r.2.2.2.2.2.2.2.2.1, r.2.2.2.2.2.2.2.2.2.1, r.2.2.2.2.2.2.2.2.2.2.1, ())], ())) fun r => some (r.1, false, true, ()) else Option.bind (loop B86_0 (x0, ofNat 0, [(lit [33, 61]), (lit [62, 61]), (lit [60, 61]), (lit [61]), (lit [62]), (lit [60]), (lit [94]), (lit [126]), (lit [])], ())) fun r => elim (fun p => some (p.1, p.2.1, p.2.2.1, ())) (fun p => some ([], false, false, ())) r := by kernel_rfl
theorem B53_0_eq (x0 : List R7) (x1 : Int) (x2 : ByteArray) (x3 : Int) : B53_0 (x0, x1, x2, x3, ()) =
 bif decide (x1 > ofNat 0) then bif decide (x3 ≥ ofNat (size x2)) then some (inr (x0, ofNat 0, true, x2, x3, ())) else bif decide (ofNat 0 ≤ x3) && decide (x3 < ofNat (size x2)) then bif bt x2 x3 == ofNat 124 then some (inr (x0, ofNat 0, true, x2, x3, ())) else Option.bind (F85 (x2, x3, ())) fun r => Option.bind (F86 (r.1, ())) fun r_1 => bif !r_1.2.2.1 then some (inr ([], r.2.1, false, r.2.2.1, r.2.2.2.1, ())) else bif r_1.2.1 then bif decide (r.2.2.2.1 < ofNat (size r.2.2.1)) then bif decide (ofNat 0 ≤ r.2.2.2.1) && decide (r.2.2.2.1 < ofNat (size r.2.2.1)) then bif bt r.2.2.1 r.2.2.2.1 == ofNat 45 then Option.bind (F85 (r.2.2.1, r.2.2.2.1, ())) fun r => Option.bind (F85 (r.2.2.1, r.2.2.2.1, ())) fun r_2 => Option.bind (F37 (r_2.1, ())) fun r_3 => bif !bl r.1 == [45] then some (inr ([], r.2.1, false, r_2.2.2.1, r_2.2.2.2.1, ())) else bif !r_3.2.2.2.2.1 then some (inr ([], r_2.2.1, false, r_2.2.2.1, r_2.2.2.2.1, ())) else Option.bind r_1.1[0]? fun y => Option.bind (F36 ([(y.1, y.2.1, y.2.2.1, y.2.2.2.1, r_3.1, r_3.2.1, r_3.2.2.1, r_3.2.2.2.1, false, true, false, ())], ())) fun r => Option.bind (F20 (x0, r.1, ())) fun r => some (inl (r.1, wrap .i64 (x1 + ofNat 1), r_2.2.2.1, r_2.2.2.2.1, ())) else Option.bind (F20 (x0, r_1.1, ())) fun r_2 => some (inl (r_2.1, wrap .i64 (x1 + ofNat 1), r.2.2.1, r.2.2.2.1, ())) else none else Option.bind (F20 (x0, r_1.1, ())) fun r_2 => some (inl (r_2.1, wrap .i64 (x1 + ofNat 1), r.2.2.1, r.2.2.2.1, ())) else Option.bind (F20 (x0, r_1.1, ())) fun r_2 => some (inl (r_2.1, wrap .i64 (x1 + ofNat 1), r.2.2.1, r.2.2.2.1, ())) else none else Option.bind (F85 (x2, x3, ())) fun r => Option.bind (F86 (r.1, ())) fun r_1 => bif !r_1.2.2.1 then some (inr ([], r.2.1, false, r.2.2.1, r.2.2.2.1, ())) else bif r_1.2.1 then bif decide (r.2.2.2.1 < ofNat (size r.2.2.1)) then bif decide (ofNat 0 ≤ r.2.2.2.1) && decide (r.2.2.2.1 < ofNat (size r.2.2.1)) then bif bt r.2.2.1 r.2.2.2.1 == ofNat 45 then Option.bind (F85 (r.2.2.1, r.2.2.2.1, ())) fun r => Option.bind (F85 (r.2.2.1, r.2.2.2.1, ())) fun r_2 => Option.bind (F37 (r_2.1, ())) fun r_3 => bif !bl r.1 == [45] then some (inr ([], r.2.1, false, r_2.2.2.1, r_2.2.2.2.1, ())) else bif !r_3.2.2.2.2.1 then some (inr ([], r_2.2.1, false, r_2.2.2.1, r_2.2.2.2.1, ())) else Option.bind r_1.1[0]? fun y => Option.bind (F36 ([(y.1, y.2.1, y.2.2.1, y.2.2.2.1, r_3.1, r_3.2.1, r_3.2.2.1, r_3.2.2.2.1, false, true, false, ())], ())) fun r => Option.bind (F20 (x0, r.1, ())) fun r => some (inl (r.1, wrap .i64 (x1 + ofNat 1), r_2.2.2.1, r_2.2.2.2.1, ())) else Option.bind (F20 (x0, r_1.1, ())) fun r_2 => some (inl (r_2.1, wrap .i64 (x1 + ofNat 1), r.2.2.1, r.2.2.2.1, ())) else none else Option.bind (F20 (x0, r_1.1, ())) fun r_2 => some (inl (r_2.1, wrap .i64 (x1 + ofNat 1), r.2.2.1, r.2.2.2.1, ())) else Option.bind (F20 (x0, r_1.1, ())) fun r_2 => some (inl (r_2.1, wrap .i64 (x1 + ofNat 1), r.2.2.1, r.2.2.2.1, ())) := by kernel_rfl
theorem F53_eq (x0 : ByteArray) (x1 : Int) : F53 (x0, x1, ()) =
 Option.bind (F22 ([], ())) fun r => Option.bind (F84 (x0, x1, ())) fun r_1 => Option.bind (loop B53_0 (r.1, ofNat 0, r_1.1, r_1.2.1, ())) fun r => some (r.1, r.2.1, r.2.2.1, r.2.2.2.1, r.2.2.2.2.1, ()) := by kernel_rfl
theorem B31_0_eq (x0 : ByteArray) (x1 : List R7) (x2 : ByteArray) (x3 : Int) : B31_0 (x0, x1, x2, x3, ()) =
 Option.bind (F53 (x2, x3, ())) fun r => bif !r.2.2.1 then some (inr ([], r.2.1, ofNat 6, ())) else Option.bind (F21 (x1, r.1, ())) fun r_1 => bif decide (r.2.2.2.2.1 ≥ ofNat (size x0)) then some (inr (r_1.1, ofNat 0, ofNat 0, ())) else bif decide (wrap .i64 (r.2.2.2.2.1 + ofNat 1) ≥ ofNat (size x0)) then some (inr ([], wrap .i64 (r.2.2.2.2.1 + ofNat 1), ofNat 6, ())) else bif decide (ofNat 0 ≤ wrap .i64 (r.2.2.2.2.1 + ofNat 1)) && decide (wrap .i64 (r.2.2.2.2.1 + ofNat 1) < ofNat (size x0)) then bif !bt x0 (wrap .i64 (r.2.2.2.2.1 + ofNat 1)) == ofNat 124 then some (inr ([], wrap .i64 (r.2.2.2.2.1 + ofNat 1), ofNat 6, ())) else some (inl (x0, r_1.1, r.2.2.2.1, wrap .i64 (r.2.2.2.2.1 + ofNat 2), ())) else none := by kernel_rfl
theorem F31_eq (x0 : ByteArray) : F31 (x0, ()) =
 Option.bind (loop B31_0 (x0, [], x0, ofNat 0, ())) fun r => some (r.1, r.2.1, r.2.2.1, ()) := by kernel_rfl
end Go.Vx.Z
/-! strings.Split at a dot; texts held against one another. -/
namespace Go.Vx
open Go
set_option linter.unusedVariables false
theorem xIndexByte_eq (s : ByteArray) (c : Int) : xIndexByte s c = Lib.indexByte (bs s) c.toNat.toUInt8 := Lib.firstIdx_eq s c.toNat.toUInt8
theorem xCount_eq (s : ByteArray) (c : Int) : xCount s c = (((bs s).count c.toNat.toUInt8 : Nat) : Int) := by
 unfold xCount
 rw [Lib.foldl_data, Lib.count_foldl]
 simp [Lib.countByte, bs]
def splitB (c : UInt8) : List UInt8 → List (List UInt8)
 | [] => [[]]
 | x :: l => if x == c then [] :: splitB c l else match splitB c l with
  | [] => [[x]]
  | w :: ws => (x :: w) :: ws
theorem splitB_ne (c : UInt8) : ∀ l, splitB c l ≠ []
 | [] => by simp [splitB]
 | x :: l => by
  unfold splitB
  split
  ·simp
  ·split <;> simp
theorem index_no {c : UInt8} : ∀ {l : List UInt8}, Lib.indexByte l c = -1 → splitB c l = [l] ∧ l.count c = 0
 | [], _ => ⟨rfl, rfl⟩
 | x :: l, h => by
  unfold Lib.indexByte at h
  split at h
  ·cases h
  ·rename_i hx
   split at h
   ·rename_i hl
    obtain ⟨h1, h2⟩ := index_no (l := l) (by simpa using hl)
    unfold splitB
    rw [if_neg hx, h1]
    exact ⟨rfl, by rw [List.count_cons, h2]; simp [hx]⟩
   ·have := Lib.indexByte_ge l c
    rename_i hl
    have hl' : Lib.indexByte l c ≠ -1 := by simpa using hl
    omega
theorem index_yes {c : UInt8} : ∀ {l : List UInt8}, Lib.indexByte l c ≠ -1 → ∃ k : Nat, Lib.indexByte l c = k ∧ k < l.length ∧ splitB c l = l.take k :: splitB c (l.drop (k + 1)) ∧ l.count c = (l.drop (k + 1)).count c + 1
 | [], h => absurd rfl h
 | x :: l, h => by
  unfold Lib.indexByte at h ⊢
  split
  ·rename_i hx
   refine ⟨0, rfl, by simp, ?_, ?_⟩
   ·conv => lhs; unfold splitB
    rw [if_pos hx]
    simp
   ·rw [List.count_cons]; simp [hx]
  ·rename_i hx
   rw [if_neg hx] at h
   split
   ·rename_i hl; rw [if_pos hl] at h; exact absurd rfl h
   ·rename_i hl
    obtain ⟨k, h1, h2, h3, h4⟩ := index_yes (l := l) (c := c) (by simpa using hl)
    refine ⟨k + 1, by rw [h1]; rfl, by simp; omega, ?_, ?_⟩
    ·conv => lhs; unfold splitB
     rw [if_neg hx, h3]
     simp
    ·rw [List.count_cons, h4]; simp [hx]
theorem splitB_length (c : UInt8) : ∀ l, (splitB c l).length = l.count c + 1
 | [] => rfl
 | x :: l => by
  have ih := splitB_length c l
  unfold splitB
  rw [List.count_cons]
  split
  ·rename_i hx; simp [ih, hx]
  ·rename_i hx
   have hne := splitB_ne c l
   cases hs : splitB c l with
   | nil => exact absurd hs hne
   | cons w ws => rw [hs] at ih; simp [hx] at ih ⊢; exact ih
namespace Z
def dot : ByteArray := lit [46]
def splitDot (s : ByteArray) : List ByteArray := (splitB 46 (bs s)).map lit
theorem lit_bs (s : ByteArray) : lit (bs s) = s := bs_inj rfl
theorem F165_dot (s : ByteArray) : F165 (s, dot, ()) = some (Lib.indexByte (bs s) 46, ()) := by
 rw [F165_eq, F162_eq]
 have h1 : (Int.ofNat (ByteArray.size dot) == Int.ofNat 0) = false := rfl
 have h2 : (Int.ofNat (ByteArray.size dot) == Int.ofNat 1) = true := rfl
 have h3 : decide (Int.ofNat 0 < Int.ofNat (ByteArray.size dot)) = true := rfl
 rw [h1, h2, h3, F161_eq, xIndexByte_eq]
 simp only [cond_false, cond_true, Option.bind_some]
 cases hd : (bl dot == bl s) with
 | false => rfl
 | true =>
  have : bl dot = bl s := by simpa using hd
  rw [bs_toList, bs_toList] at this
  rw [← this]
  rfl
theorem split_inv (s : ByteArray) (n : Nat) (hn : n ≤ 1099511627776) : ∀ (k : Nat) (r : ByteArray) (a : List ByteArray) (i : Nat), k = (bs r).count 46 → r.size ≤ 1099511627776 → i + k = n → a.length = n + 1 → (a.take i).map bs ++ splitB 46 (bs r) = splitB 46 (bs s) →
  ∃ r' a', loop B139_0 (r, dot, (0 : Int), (n : Int), (i : Int), a, ()) = some (r', (n : Int), a', ()) ∧ a'.length = n + 1 ∧ (a'.take n).map bs ++ [bs r'] = splitB 46 (bs s)
 | 0, r, a, i, hk, hr, hi, ha, hs => by
  obtain rfl : i = n := by omega
  have hno : Lib.indexByte (bs r) 46 = -1 := by
   by_cases h : Lib.indexByte (bs r) 46 = -1
   ·exact h
   ·obtain ⟨_, _, _, _, h4⟩ := index_yes h
    omega
  refine ⟨r, a, loop_end ?_, ha, by rw [← hs, (index_no hno).1]⟩
  rw [B139_0_eq]
  have : decide ((i : Int) < (i : Int)) = false := by simp
  rw [this]
  rfl
 | k + 1, r, a, i, hk, hr, hi, ha, hs => by
  have hyes : Lib.indexByte (bs r) 46 ≠ -1 := fun h => by
   have := (index_no h).2
   omega
  obtain ⟨m, h1, h2, h3, h4⟩ := index_yes hyes
  have hsz : r.size = (bs r).length := bs_size r
  have hrest : bs (r.extract (m + 1) r.size) = (bs r).drop (m + 1) := by
   rw [bs_extract, hsz, List.take_length]
  obtain ⟨r', a', h5, h6, h7⟩ := split_inv s n hn k (r.extract (m + 1) r.size) (a.set i (r.extract 0 m)) (i + 1) (by rw [hrest]; omega) (by rw [bs_size, hrest, List.length_drop]; omega) (by omega) (by rw [List.length_set]; exact ha) (by
   rw [hrest, ← hs, h3, List.take_set, List.take_succ_eq_append_getElem (by omega), List.set_append]
   have hl : (a.take i).length = i := by rw [List.length_take]; omega
   rw [hl, if_neg (by omega), Nat.sub_self, List.set_cons_zero, List.map_append, List.append_assoc]
   simp [bs_extract])
  refine ⟨r', a', loop_step ?_ h5, h6, h7⟩
  rw [B139_0_eq, F165_dot, h1]
  have e1 : decide ((i : Int) < (n : Int)) = true := by simp; omega
  have e2 : decide ((m : Int) < Int.ofNat 0) = false := by simp
  have e3 : IntKind.wrap IntKind.i64 ((m : Int) + 0) = (m : Int) := by rw [wrap64 (by omega) (by omega)]; omega
  have e4 : (decide (Int.ofNat 0 ≤ (m : Int)) && decide ((m : Int) ≤ Int.ofNat r.size)) = true := by simp; omega
  have e5 : (decide (Int.ofNat 0 ≤ (i : Int)) && decide ((i : Int) < Int.ofNat a.length)) = true := by simp; omega
  have e6 : IntKind.wrap IntKind.i64 ((m : Int) + Int.ofNat (ByteArray.size dot)) = ((m + 1 : Nat) : Int) := by
   have : Int.ofNat (ByteArray.size dot) = 1 := rfl
   rw [this]; exact wrap64s m (by omega)
  have e7 : (decide (Int.ofNat 0 ≤ ((m + 1 : Nat) : Int)) && (decide (((m + 1 : Nat) : Int) ≤ Int.ofNat r.size) && decide (Int.ofNat r.size ≤ Int.ofNat r.size))) = true := by simp; omega
  have e8 : IntKind.wrap IntKind.i64 ((i : Int) + Int.ofNat 1) = ((i + 1 : Nat) : Int) := wrap64s i (by omega)
  have e9 : a[i]? = some (a[i]'(by omega)) := List.getElem?_eq_getElem _
  simp only [e1, e2, e3, e4, e5, e6, e7, e8, cond_true, cond_false, Int.toNat_natCast, Option.bind_some]
  rw [e9]
  rfl
theorem F102_dot (s : ByteArray) (hs : s.size ≤ 1099511627776) : F102 (s, dot, ()) = some (splitDot s, ()) := by
 rw [F102_eq, F139_eq]
 have h1 : (Int.negSucc 0 == Int.ofNat 0) = false := rfl
 have h2 : (bl dot == []) = false := by rw [bs_toList]; rfl
 have h3 : decide (Int.negSucc 0 < Int.ofNat 0) = true := rfl
 have h4 : F164 (s, dot, ()) = some ((((bs s).count 46 : Nat) : Int), ()) := by
  rw [F164_eq]
  have g1 : (Int.ofNat (ByteArray.size dot) == Int.ofNat 0) = false := rfl
  have g2 : (Int.ofNat (ByteArray.size dot) == Int.ofNat 1) = true := rfl
  have g3 : decide (Int.ofNat 0 < Int.ofNat (ByteArray.size dot)) = true := rfl
  rw [g1, g2, g3]
  simp only [cond_false, cond_true]
  rw [xCount_eq]
  rfl
 have hc : (bs s).count 46 ≤ (bs s).length := List.count_le_length
 have hsz := bs_size s
 rw [h1, h2, h3, h4]
 simp only [cond_false, cond_true, Option.bind_some]
 generalize hn : (bs s).count 46 = n
 have e1 : IntKind.wrap IntKind.i64 (Int.ofNat s.size + Int.ofNat 1) = ((s.size + 1 : Nat) : Int) := wrap64s s.size (by omega)
 have e2 : IntKind.wrap IntKind.i64 ((n : Int) + Int.ofNat 1) = ((n + 1 : Nat) : Int) := wrap64s n (by omega)
 have e3 : decide (((s.size + 1 : Nat) : Int) < ((n + 1 : Nat) : Int)) = false := by simp; omega
 rw [e1, e2, e3]
 simp only [cond_false]
 have e4 : (decide (Int.ofNat 0 ≤ ((n + 1 : Nat) : Int)) && (decide (((n + 1 : Nat) : Int) ≤ ((n + 1 : Nat) : Int)) && decide ((Int.ofNat 16 * ((n + 1 : Nat) : Int)) ≤ Int.ofNat 281474976710656) && decide (((n + 1 : Nat) : Int) ≤ Int.ofNat 9223372036854775807))) = true := by
  simp; omega
 have e5 : IntKind.wrap IntKind.i64 (((n + 1 : Nat) : Int) - Int.ofNat 1) = (n : Int) := by rw [show ((n + 1 : Nat) : Int) - Int.ofNat 1 = (n : Int) by simp]; exact wrap64 (by omega) (by omega)
 rw [e4, e5]
 simp only [cond_true, Int.toNat_natCast]
 obtain ⟨r', a', h5, h6, h7⟩ := split_inv s n (by omega) n s (List.replicate (n + 1) (lit [])) 0 hn.symm hs (by omega) (by simp) (by simp)
 have h5' : loop B139_0 (s, dot, Int.ofNat 0, (n : Int), Int.ofNat 0, List.replicate (n + 1) (lit []), ()) = some (r', (n : Int), a', ()) := h5
 rw [h5']
 simp only [Option.bind_some]
 have e6 : (decide (Int.ofNat 0 ≤ (n : Int)) && decide ((n : Int) < Int.ofNat a'.length)) = true := by simp; omega
 have e7 : a'[n]? = some (a'[n]'(by omega)) := List.getElem?_eq_getElem _
 have e8 : (decide (Int.ofNat 0 ≤ ((n + 1 : Nat) : Int)) && (decide (((n + 1 : Nat) : Int) ≤ Int.ofNat (List.length (a'.set n r'))) && decide (Int.ofNat (List.length (a'.set n r')) ≤ Int.ofNat (List.length (a'.set n r'))))) = true := by simp; omega
 simp only [e6, e2, cond_true, Int.toNat_natCast, e8, Nat.zero_add, List.drop_zero]
 rw [e7]
 simp only [Option.bind_some]
 have hl : List.take (n + 1) (a'.set n r') = a'.take n ++ [r'] := by
  rw [List.take_set, List.take_of_length_le (by omega), List.set_eq_take_append_cons_drop, if_pos (by omega), List.drop_of_length_le (by omega)]
 have he : a'.take n ++ [r'] = splitDot s := by
  unfold splitDot
  rw [← h7, List.map_append, List.map_map]
  have : (lit ∘ bs) = id := by funext x; exact lit_bs x
  rw [this, List.map_id]
  simp [lit_bs]
 rw [hl, he]
end Z
end Go.Vx
/-! Orders: whole numbers, bytes, words, versions. -/
namespace Go.Vx
open Go
set_option linter.unusedVariables false
structure Lin {α : Type} (c : α → α → Int) : Prop where
 rng : ∀ x y, c x y = -1 ∨ c x y = 0 ∨ c x y = 1
 eq0 : ∀ x y, c x y = 0 ↔ x = y
 anti : ∀ x y, c y x = - c x y
 trans : ∀ x y z, c x y = -1 → c y z = -1 → c x z = -1
theorem Lin.self {α : Type} {c : α → α → Int} (h : Lin c) (x : α) : c x x = 0 := (h.eq0 x x).2 rfl
theorem Lin.pull {α β : Type} {c : α → α → Int} (h : Lin c) (f : β → α) (hf : ∀ x y, f x = f y → x = y) : Lin fun x y => c (f x) (f y) :=
 ⟨fun x y => h.rng _ _, fun x y => ⟨fun e => hf _ _ ((h.eq0 _ _).1 e), fun e => by rw [e]; exact h.self _⟩, fun x y => h.anti _ _, fun x y z => h.trans _ _ _⟩
def orC (a b : Int) : Int := if a = 0 then b else a
theorem Lin.prod {α β : Type} {c : α → α → Int} {d : β → β → Int} (h : Lin c) (k : Lin d) : Lin fun (x y : α × β) => orC (c x.1 y.1) (d x.2 y.2) := by
 refine ⟨fun x y => ?_, fun x y => ?_, fun x y => ?_, fun x y z => ?_⟩
 ·unfold orC; split
  ·exact k.rng _ _
  ·exact h.rng _ _
 ·unfold orC
  split
  ·rename_i e
   rw [k.eq0]
   have := (h.eq0 _ _).1 e
   exact ⟨fun e2 => Prod.ext this e2, fun e2 => by rw [e2]⟩
  ·rename_i e
   exact ⟨fun e2 => absurd e2 e, fun e2 => absurd ((h.eq0 x.1 y.1).2 (by rw [e2])) e⟩
 ·unfold orC
  rw [h.anti x.1 y.1, k.anti x.2 y.2]
  split
  ·rename_i e; rw [if_pos (by omega)]
  ·rename_i e; rw [if_neg (by omega)]
 ·unfold orC
  intro h1 h2
  by_cases e1 : c x.1 y.1 = 0
  ·rw [if_pos e1] at h1
   have e1' := (h.eq0 _ _).1 e1
   rw [e1']
   by_cases e2 : c y.1 z.1 = 0
   ·rw [if_pos e2] at h2 ⊢
    exact k.trans _ _ _ h1 h2
   ·rw [if_neg e2] at h2 ⊢
    exact h2
  ·rw [if_neg e1] at h1
   by_cases e2 : c y.1 z.1 = 0
   ·have e2' := (h.eq0 _ _).1 e2
    rw [← e2', if_neg e1]
    exact h1
   ·rw [if_neg e2] at h2
    have := h.trans _ _ _ h1 h2
    rw [if_neg (by omega)]
    exact this
def listC {α : Type} (c : α → α → Int) : List α → List α → Int
 | [], [] => 0
 | [], _ :: _ => -1
 | _ :: _, [] => 1
 | x :: xs, y :: ys => orC (c x y) (listC c xs ys)
theorem Lin.list {α : Type} {c : α → α → Int} (h : Lin c) : Lin (listC c) := by
 have rng : ∀ x y, listC c x y = -1 ∨ listC c x y = 0 ∨ listC c x y = 1 := by
  intro x
  induction x with
  | nil => intro y; cases y <;> simp [listC]
  | cons a x ih =>
   intro y
   cases y with
   | nil => simp [listC]
   | cons b y =>
    simp only [listC, orC]
    split
    ·exact ih y
    ·exact h.rng _ _
 have eq0 : ∀ x y, listC c x y = 0 ↔ x = y := by
  intro x
  induction x with
  | nil => intro y; cases y <;> simp [listC]
  | cons a x ih =>
   intro y
   cases y with
   | nil => simp [listC]
   | cons b y =>
    simp only [listC, orC]
    split
    ·rename_i e
     rw [ih y, (h.eq0 _ _).1 e]
     simp
    ·rename_i e
     refine ⟨fun e2 => absurd e2 e, fun e2 => ?_⟩
     injection e2 with e3 _
     exact absurd ((h.eq0 _ _).2 e3) e
 have anti : ∀ x y, listC c y x = - listC c x y := by
  intro x
  induction x with
  | nil => intro y; cases y <;> simp [listC]
  | cons a x ih =>
   intro y
   cases y with
   | nil => simp [listC]
   | cons b y =>
    simp only [listC, orC]
    rw [h.anti a b, ih y]
    split
    ·rename_i e; rw [if_pos (by omega)]
    ·rename_i e; rw [if_neg (by omega)]
 refine ⟨rng, eq0, anti, ?_⟩
 intro x
 induction x with
 | nil =>
  intro y z h1 h2
  cases y with
  | nil => simp [listC] at h1
  | cons b y =>
   cases z with
   | nil => simp [listC] at h2
   | cons d z => rfl
 | cons a x ih =>
  intro y z h1 h2
  cases y with
  | nil => simp [listC] at h1
  | cons b y =>
   cases z with
   | nil => simp [listC] at h2
   | cons d z =>
    simp only [listC, orC] at h1 h2 ⊢
    by_cases e1 : c a b = 0
    ·rw [if_pos e1] at h1
     rw [(h.eq0 _ _).1 e1]
     by_cases e2 : c b d = 0
     ·rw [if_pos e2] at h2 ⊢
      exact ih y z h1 h2
     ·rw [if_neg e2] at h2 ⊢
      exact h2
    ·rw [if_neg e1] at h1
     by_cases e2 : c b d = 0
     ·rw [← (h.eq0 _ _).1 e2, if_neg e1]
      exact h1
     ·rw [if_neg e2] at h2
      have := h.trans _ _ _ h1 h2
      rw [if_neg (by omega)]
      exact this
theorem Lin.swo {α : Type} {c : α → α → Int} (h : Lin c) : Sort.SWO fun x y => decide (c x y < 0) := by
 have lt : ∀ x y, c x y < 0 ↔ c x y = -1 := fun x y => by have := h.rng x y; omega
 have tr : ∀ x y z, c x y = 1 → c y z = 1 → c x z = 1 := fun x y z h1 h2 => by
  have := h.trans z y x (by rw [h.anti y z]; omega) (by rw [h.anti x y]; omega)
  rw [h.anti x z] at this; omega
 refine ⟨fun x => by simp [h.self], fun x y z h1 h2 => ?_, fun x y z h1 h2 => ?_⟩
 ·simp only [decide_eq_true_eq, lt] at *
  exact h.trans _ _ _ h1 h2
 ·simp only [decide_eq_false_iff_not, lt] at *
  intro h3
  have r1 := h.rng x y
  have r2 := h.rng y z
  by_cases e1 : c x y = 0
  ·rw [(h.eq0 _ _).1 e1] at h3; exact h2 h3
  ·by_cases e2 : c y z = 0
   ·rw [← (h.eq0 _ _).1 e2] at h3; exact h1 h3
   ·have := tr x y z (by omega) (by omega); omega
/-! ### The orders -/
def cmpI (a b : Int) : Int := if a < b then -1 else if b < a then 1 else 0
theorem lin_cmpI : Lin cmpI := by
 refine ⟨fun x y => ?_, fun x y => ?_, fun x y => ?_, fun x y z => ?_⟩ <;> unfold cmpI
 ·split
  ·simp
  ·split <;> simp
 ·split
  ·constructor <;> intro h <;> omega
  ·split <;> constructor <;> intro h <;> omega
 ·split <;> split <;> first | omega | (split <;> omega) | rfl
 ·intro h1 h2
  split at h1
  ·split at h2
   ·rw [if_pos (by omega)]
   ·split at h2 <;> omega
  ·split at h1 <;> omega
def cmpU (a b : UInt8) : Int := cmpI a.toNat b.toNat
theorem lin_cmpU : Lin cmpU := lin_cmpI.pull (fun a : UInt8 => (a.toNat : Int)) fun x y h => UInt8.toNat_inj.1 (by omega)
abbrev cmpT : List UInt8 → List UInt8 → Int := listC cmpU
theorem lin_cmpT : Lin cmpT := lin_cmpU.list
theorem bytesLess_eq : ∀ a b, Op.bytesLess a b = decide (cmpT a b = -1)
 | [], [] => rfl
 | [], _ :: _ => rfl
 | _ :: _, [] => rfl
 | x :: a, y :: b => by
  unfold Op.bytesLess
  simp only [listC, cmpU, cmpI, orC]
  rw [bytesLess_eq a b]
  by_cases h1 : x < y
  ·have := UInt8.lt_iff_toNat_lt.1 h1
   simp [h1, this]
  ·have h1' : ¬ x.toNat < y.toNat := fun h => h1 (UInt8.lt_iff_toNat_lt.2 h)
   have h1'' : ¬ ((x.toNat : Int) < (y.toNat : Int)) := by omega
   by_cases h2 : x = y
   ·subst h2; simp [h1]
   ·have h3 : y.toNat < x.toNat := by
     rcases Nat.lt_or_ge y.toNat x.toNat with h | h
     ·exact h
     ·exact absurd (UInt8.toNat_inj.1 (by omega)) h2
    have h3' : (y.toNat : Int) < (x.toNat : Int) := by omega
    simp [h1, h2, h1'', h3']
def dig1 (c : UInt8) : Bool := decide (48 ≤ c.toNat) && decide (c.toNat ≤ 57)
def allDig (l : List UInt8) : Bool := l.all dig1 && !l.isEmpty
def wordKey (l : List UInt8) : Int × Int × List UInt8 := if allDig l then (0, (l.length : Int), l) else (1, 0, l)
def cmpW (a b : List UInt8) : Int := (fun (x y : Int × Int × List UInt8) => orC (cmpI x.1 y.1) (orC (cmpI x.2.1 y.2.1) (cmpT x.2.2 y.2.2))) (wordKey a) (wordKey b)
theorem lin_cmpW : Lin cmpW := (lin_cmpI.prod (lin_cmpI.prod lin_cmpT)).pull wordKey fun x y h => by
 unfold wordKey at h
 split at h <;> split at h <;> simp_all
theorem splitB_inj (c : UInt8) : ∀ x y, splitB c x = splitB c y → x = y
 | [], [], _ => rfl
 | [], b :: y, h => by
  have h1 := splitB_length c (b :: y)
  rw [← h] at h1
  unfold splitB at h
  split at h
  ·have := splitB_ne c y
   injection h with _ h
   exact absurd h.symm this
  ·split at h <;> cases h
 | a :: x, [], h => by
  unfold splitB at h
  split at h
  ·have := splitB_ne c x
   injection h with _ h
   exact absurd h this
  ·split at h <;> cases h
 | a :: x, b :: y, h => by
  have hx := splitB_ne c x
  have hy := splitB_ne c y
  rw [splitB, splitB] at h
  cases hsx : splitB c x with
  | nil => exact absurd hsx hx
  | cons w ws =>
   cases hsy : splitB c y with
   | nil => exact absurd hsy hy
   | cons v vs =>
    rw [hsx, hsy] at h
    by_cases ha : (a == c) = true
    ·by_cases hb : (b == c) = true
     ·rw [if_pos ha, if_pos hb] at h
      injection h with _ h
      rw [splitB_inj c x y (by rw [hsx, hsy, h])]
      have := (beq_iff_eq.1 ha).trans (beq_iff_eq.1 hb).symm
      rw [this]
     ·rw [if_pos ha, if_neg hb] at h
      cases h
    ·by_cases hb : (b == c) = true
     ·rw [if_neg ha, if_pos hb] at h
      cases h
     ·rw [if_neg ha, if_neg hb] at h
      injection h with h1 h2
      injection h1 with h3 h4
      rw [h3, splitB_inj c x y (by rw [hsx, hsy, h4, h2])]
def preKey (l : List UInt8) : Int × List (List UInt8) := if l = [] then (1, []) else (0, splitB 46 l)
def cmpP (a b : List UInt8) : Int := (fun (x y : Int × List (List UInt8)) => orC (cmpI x.1 y.1) (listC cmpW x.2 y.2)) (preKey a) (preKey b)
theorem lin_cmpP : Lin cmpP := (lin_cmpI.prod lin_cmpW.list).pull preKey fun x y h => by
 unfold preKey at h
 split at h <;> split at h
 ·simp_all
 ·simp at h
 ·simp at h
 ·injection h with _ h; exact splitB_inj 46 _ _ h
abbrev Ver := Int × Int × Int × ByteArray × Unit
def verKey (v : Ver) : Int × Int × Int × List UInt8 := (v.1, v.2.1, v.2.2.1, bs v.2.2.2.1)
def cmpV (a b : Ver) : Int := (fun (x y : Int × Int × Int × List UInt8) => orC (cmpI x.1 y.1) (orC (cmpI x.2.1 y.2.1) (orC (cmpI x.2.2.1 y.2.2.1) (cmpP x.2.2.2 y.2.2.2)))) (verKey a) (verKey b)
theorem lin_cmpV : Lin cmpV := (lin_cmpI.prod (lin_cmpI.prod (lin_cmpI.prod lin_cmpP))).pull verKey fun x y h => by
 obtain ⟨a, b, c, d, u⟩ := x
 obtain ⟨a', b', c', d', u'⟩ := y
 simp only [verKey, Prod.mk.injEq] at h
 obtain ⟨h1, h2, h3, h4⟩ := h
 rw [h1, h2, h3, bs_inj h4]
end Go.Vx
/-! slices.SortFunc over an own list, by the shelf's contract, as an entry. -/
namespace Go.Vx
open Go Go.RowKit Go.Proofs Go.Shelf Go.Sort
set_option linter.unusedVariables false
set_option linter.unusedSimpArgs false
def rowShape : Ty → List SAC
 | .unit => []
 | .cons a b => .d a :: rowShape b
 | .int k => [.d (.int k)]
 | .bool => [.d .bool]
 | .str => [.d .str]
 | .list r => [.d (.list r)]
def toP : (r : Ty) → r.D → {X : Type} → X → rowP (rowShape r) X
 | .unit, _, _, y => y
 | .cons _ b, x, _, y => (x.1, toP b x.2 y)
 | .int _, x, _, y => (x, y)
 | .bool, x, _, y => (x, y)
 | .str, x, _, y => (x, y)
 | .list _, x, _, y => (x, y)
theorem em_toP : ∀ (r : Ty) (x : r.D) {X : Type} (y : X), emRow (rowShape r) (toP r x y) = (cellsOf r x, y)
 | .unit, _, _, _ => rfl
 | .cons a b, x, X, y => by
  have h := em_toP b x.2 y
  simp only [rowShape, toP, emRow, emAC, cellsOf, h]
 | .int _, _, _, _ => rfl
 | .bool, _, _, _ => rfl
 | .str, _, _, _ => rfl
 | .list _, _, _, _ => rfl
@[reducible] def shCmp (r : Ty) : Shape := ⟨[(0, .row (rowShape r)), (1, .row (rowShape r))], []⟩
@[reducible] def outI : Shape := ⟨[(0, .one (.d (.int .i64)))], []⟩
@[reducible] def outSort (e : Nat) (r : Ty) : Shape := ⟨[], [(100000, .lst e r false)]⟩
def sortIdx (lt : Nat → Nat → Bool) (n : Nat) : List Nat := (Sort.pdq lt (Array.range n) 0 n (Lib.bitLen n) true true).toList
def sortBy {α : Type} (cf : α → α → Int) : List α → List α
 | [] => []
 | x :: l => (sortIdx (ltOf fun i j => cf ((x :: l).getD i x) ((x :: l).getD j x)) (x :: l).length).map fun i => (x :: l).getD i x
theorem swo_at {α β : Type} {cf : α → α → Int} (h : SWO (ltOf cf)) (f : β → α) : SWO (ltOf fun i j => cf (f i) (f j)) :=
 ⟨fun x => h.irrefl (f x), fun x y z => h.trans (f x) (f y) (f z), fun x y z => h.ntrans (f x) (f y) (f z)⟩
theorem pdq_range {lt : Nat → Nat → Bool} (h : SWO lt) (n : Nat) : (sortIdx lt n).Perm (List.range n) := by
 obtain ⟨⟨h1, _, h2⟩, _⟩ := Sort.pdq_sorts lt h (Array.range n) 0 n (Lib.bitLen n) true true (Nat.zero_le _) (by simp) (Or.inl rfl)
 have gen : ∀ (A : Array Nat), A.size = n → A.extract 0 n = A := by intro A hA; subst hA; exact Array.extract_size
 have e1 := gen (Sort.pdq lt (Array.range n) 0 n (Lib.bitLen n) true true) (by rw [h1]; simp)
 have e2 := gen (Array.range n) (by simp)
 rw [e1, e2, Array.toList_range] at h2
 exact h2
theorem flatK_toList {α : Type} [Inhabited α] (enc : α → List Value) (k : Nat) (hk : ∀ x, (enc x).length = k) (d : Array α) : (flatK enc k d).toList = d.toList.flatMap enc := by
 apply List.ext_getElem
 ·rw [Array.length_toList, size_flatK, List.length_flatMap]
  simp [hk, Function.comp_def]
  rw [List.map_const', List.sum_replicate_nat]; simp
 ·intro t h1 h2
  rw [Array.length_toList, size_flatK] at h1
  have hk0 : 0 < k := by
   rcases Nat.eq_zero_or_pos k with h | h
   ·subst h; simp at h1
   ·exact h
  have hd : t / k < d.size := Nat.div_lt_of_lt_mul (by rw [Nat.mul_comm]; exact h1)
  have hm : t % k < k := Nat.mod_lt _ hk0
  have g1 := get_flatK enc k d t h1
  rw [getElem!_pos _ t (by rw [size_flatK]; exact h1)] at g1
  rw [Array.getElem_toList, g1]
  have key : ∀ (l : List α) (q : Nat), q < l.length → ∀ j, j < k → (l.flatMap enc)[q * k + j]? = (enc l[q]!)[j]? := by
   intro l
   induction l with
   | nil => intro q hq; simp at hq
   | cons x l ih =>
    intro q hq j hj
    rw [List.flatMap_cons]
    cases q with
    | zero => rw [List.getElem?_append_left (by rw [hk]; omega)]; simp
    | succ q =>
     rw [List.getElem?_append_right (by rw [hk, Nat.add_mul]; omega), hk, show (q + 1) * k + j - k = q * k + j by rw [Nat.add_mul]; omega]
     rw [ih q (by simpa using hq) j hj]
     simp
  have h3 := key d.toList (t / k) (by simpa using hd) (t % k) hm
  rw [Nat.mul_comm, Nat.div_add_mod, List.getElem?_eq_getElem h2] at h3
  have h4 : d.toList[t / k]! = d[t / k]! := by
   rw [getElem!_pos d.toList _ (by simpa using hd), getElem!_pos d _ hd]
   simp
  rw [h4, List.getElem?_eq_getElem (by rw [hk]; exact hm)] at h3
  injection h3 with h3
  rw [h3, getElem!_pos _ _ (by rw [hk]; exact hm)]
section
variable {P : Program} {ρ : Shelf.Ren}
def vsAt (k : Nat) (vs : List Value) (n : Nat) (i : Nat) : List Value := (vs.drop ((if i < n then i else 0) * k)).take k
theorem world_grown {W w' : World} (h1 : w'.os = W.os) (h2 : w'.tape = W.tape) (h3 : w'.output = W.output) (h4 : W.heap.size ≤ w'.heap.size) (h5 : ∀ k, k < W.heap.size → w'.heap[k]? = W.heap[k]?) (h6 : W.drawn ≤ w'.drawn) :
  ∃ q os', w' = grow (W.drewN q) os' := by
 refine ⟨w'.drawn - W.drawn, w'.heap.extract W.heap.size w'.heap.size, ?_⟩
 obtain ⟨wh, wt, wd, wo, wp⟩ := w'
 obtain ⟨Wh, Wt, Wd, Wo, Wp⟩ := W
 simp only at h1 h2 h3 h4 h5 h6
 subst h1 h2 h3
 simp only [grow, World.drewN, World.mk.injEq, true_and, and_true]
 refine ⟨?_, by omega⟩
 apply Array.ext
 ·simp; omega
 ·intro i hi hi'
  rw [Array.getElem_append]
  split
  ·rename_i hlt
   have := h5 i hlt
   rw [Array.getElem?_eq_getElem hi, Array.getElem?_eq_getElem hlt] at this
   exact Option.some.inj this
  ·rename_i hlt
   rw [Array.getElem_extract]
   congr 1
   omega
end
end Go.Vx
/-! What the program's comparisons come to. -/
namespace Go.Vx.Z
open Go Go.Vx
set_option linter.unusedVariables false
theorem F92_is (a b : Int) : F92 (a, b, ()) = some (cmpI a b, ()) := by
 rw [F92_eq, F113_eq, F113_eq]
 simp only [beq_self_eq_true, Bool.not_true, Option.bind_some, cond_false]
 unfold cmpI
 by_cases h1 : a < b
 ·simp [h1]
 ·by_cases h2 : b < a
  ·simp [h1, h2]
  ·simp [h1, h2]
theorem F150_is (a b : ByteArray) : F150 (a, b, ()) = some (cmpT (bs a) (bs b), ()) := by
 rw [F150_eq, F171_eq, F171_eq]
 simp only [beq_self_eq_true, Bool.not_true, Option.bind_some, cond_false, bs_toList, bytesLess_eq]
 have r := lin_cmpT.rng (bs a) (bs b)
 by_cases h1 : cmpT (bs a) (bs b) = -1
 ·simp [h1]
 ·by_cases h2 : bs a = bs b
  ·have := (lin_cmpT.eq0 (bs a) (bs b)).2 h2
   simp [h1, h2, this, lin_cmpT.self]
  ·have : cmpT (bs a) (bs b) ≠ 0 := fun h => h2 ((lin_cmpT.eq0 _ _).1 h)
   have : cmpT (bs a) (bs b) = 1 := by omega
   have e : (bs a == bs b) = false := by simpa using h2
   simp [this, e]
theorem all_take (l : List UInt8) (i : Nat) (h : i < l.length) : (l.take (i + 1)).all dig1 = ((l.take i).all dig1 && dig1 l[i]) := by
 rw [List.take_succ_eq_append_getElem h, List.all_append]; simp
theorem F149_is (s : ByteArray) (hs : s.size ≤ 1099511627776) : F149 (s, ()) = some (allDig (bs s), ()) := by
 rw [F149_eq]
 have hl := bs_size s
 obtain ⟨e, h1, h2⟩ := loop_inv (B := B149_0) (fun p => ∃ i : Nat, i ≤ s.size ∧ (bs s |>.take i).all dig1 = true ∧ p = (s, Int.ofNat s.size, (i : Int), ())) (fun p => (Int.ofNat s.size - p.2.2.1).toNat)
  (fun e => (e = .inl (false, ()) ∧ (bs s).all dig1 = false) ∨ (e = .inr (s, ()) ∧ (bs s).all dig1 = true)) (by
   rintro p ⟨i, hi, ha, rfl⟩
   rw [B149_0_eq]
   by_cases hlt : i < s.size
   ·have e1 : decide ((i : Int) < Int.ofNat s.size) = true := by simp; omega
    have e2 : decide (Int.ofNat 0 ≤ (i : Int)) = true := by simp
    have hb := bt_eq s i hlt
    have hil : i < (bs s).length := by omega
    simp only [e1, e2, Bool.and_self, cond_true]
    rw [hb]
    have hall : ∀ q, q < (bs s).length → dig1 ((bs s)[q]!) = false → (bs s).all dig1 = false := by
     intro q hq hd
     rw [List.all_eq_false]
     refine ⟨(bs s)[q], List.getElem_mem hq, ?_⟩
     rw [getElem!_pos (bs s) q hq] at hd
     simp [hd]
    by_cases h1 : ((bs s)[i].toNat : Int) < Int.ofNat 48
    ·have e3 : decide (((bs s)[i].toNat : Int) < Int.ofNat 48) = true := by simp at h1 ⊢; exact h1
     rw [e3]
     refine .inr ⟨_, rfl, .inl ⟨rfl, hall i hil ?_⟩⟩
     rw [getElem!_pos (bs s) i hil]
     have : ¬ 48 ≤ (bs s)[i].toNat := by simp at h1; omega
     simp [dig1, this]
    ·have e3 : decide (((bs s)[i].toNat : Int) < Int.ofNat 48) = false := by simp at h1 ⊢; exact h1
     rw [e3]
     simp only [cond_false]
     by_cases h2 : ((bs s)[i].toNat : Int) > Int.ofNat 57
     ·have e4 : decide (((bs s)[i].toNat : Int) > Int.ofNat 57) = true := by simp at h2 ⊢; exact h2
      rw [e4]
      refine .inr ⟨_, rfl, .inl ⟨rfl, hall i hil ?_⟩⟩
      rw [getElem!_pos (bs s) i hil]
      have : ¬ (bs s)[i].toNat ≤ 57 := by simp at h2; omega
      simp [dig1, this]
     ·have e4 : decide (((bs s)[i].toNat : Int) > Int.ofNat 57) = false := by simp at h2 ⊢; exact h2
      rw [e4]
      have hd : dig1 (bs s)[i] = true := by simp [dig1]; simp at h1 h2; omega
      refine .inl ⟨(s, Int.ofNat s.size, ((i + 1 : Nat) : Int), ()), ?_, ⟨i + 1, by omega, by rw [all_take _ _ hil, ha, hd]; rfl, rfl⟩, ?_⟩
      ·simp only [cond_false]
       rw [show IntKind.wrap IntKind.i64 ((i : Int) + Int.ofNat 1) = ((i + 1 : Nat) : Int) from wrap64s i (by omega)]
      ·simp; omega
   ·have e1 : decide ((i : Int) < Int.ofNat s.size) = false := by simp; omega
    rw [e1]
    refine .inr ⟨_, rfl, .inr ⟨rfl, ?_⟩⟩
    rw [List.take_of_length_le (by omega)] at ha
    exact ha) (s, Int.ofNat s.size, Int.ofNat 0, ()) ⟨0, by omega, by simp, rfl⟩
 rw [h1]
 simp only [Option.bind_some]
 rcases h2 with ⟨rfl, h3⟩ | ⟨rfl, h3⟩
 ·simp [allDig, h3]
 ·simp only [Sum.elim_inr, allDig, h3, Bool.true_and, bs_toList]
  cases bs s <;> rfl
theorem F66_is (l : List Int) (hl : l.length < 1000) : F66 (l, ()) = some ((l.find? (· != 0)).getD 0, ()) := by
 rw [F66_eq]
 have key : ∀ (k i : Nat), i + k = l.length → loop B66_0 (Int.ofNat 0, l, Int.ofNat l.length, (i : Int), ()) = some (match (l.drop i).find? (· != 0) with | some y => .inl (y, ()) | none => .inr (0, ())) := by
  intro k
  induction k with
  | zero =>
   intro i hi
   refine loop_end ?_
   rw [B66_0_eq]
   have e1 : decide ((i : Int) < Int.ofNat l.length) = false := by simp; omega
   rw [e1, List.drop_of_length_le (by omega)]
   rfl
  | succ k ih =>
   intro i hi
   have e1 : decide ((i : Int) < Int.ofNat l.length) = true := by simp; omega
   have e2 : decide (Int.ofNat 0 ≤ (i : Int)) = true := by simp
   have e3 : l[i]? = some (l[i]'(by omega)) := List.getElem?_eq_getElem _
   have hd : l.drop i = l[i]'(by omega) :: l.drop (i + 1) := List.drop_eq_getElem_cons (by omega)
   by_cases hz : (l[i]'(by omega)) = 0
   ·refine loop_step (q := (Int.ofNat 0, l, Int.ofNat l.length, ((i + 1 : Nat) : Int), ())) ?_ ?_
    ·rw [B66_0_eq]
     simp only [e1, e2, cond_true, Int.toNat_natCast, e3, Option.bind_some]
     rw [show IntKind.wrap IntKind.i64 ((i : Int) + Int.ofNat 1) = ((i + 1 : Nat) : Int) from wrap64s i (by omega), hz]
     rfl
    ·rw [ih (i + 1) (by omega), hd, List.find?_cons]
     simp [hz]
   ·refine loop_end ?_
    rw [B66_0_eq]
    simp only [e1, e2, cond_true, Int.toNat_natCast, e3, Option.bind_some]
    rw [hd, List.find?_cons]
    have : ((l[i]'(by omega)) == Int.ofNat 0) = false := by simpa using hz
    have h2 : ((l[i]'(by omega)) != 0) = true := by simpa using hz
    rw [this, h2]
    rfl
 have := key l.length 0 (by omega)
 rw [show (((0 : Nat)) : Int) = Int.ofNat 0 from rfl] at this
 rw [this, List.drop_zero]
 cases l.find? (· != 0) <;> rfl
theorem wordKey_or (a b : List UInt8) : cmpW a b = if allDig a then (if allDig b then orC (cmpI a.length b.length) (cmpT a b) else -1) else (if allDig b then 1 else cmpT a b) := by
 unfold cmpW wordKey
 cases h1 : allDig a <;> cases h2 : allDig b <;> simp [orC, cmpI]
theorem F115_is (a b : ByteArray) (ha : a.size ≤ 1099511627776) (hb : b.size ≤ 1099511627776) : F115 (a, b, ()) = some (cmpW (bs a) (bs b), ()) := by
 have hsa : Int.ofNat a.size = ((bs a).length : Int) := by rw [bs_size]; rfl
 have hsb : Int.ofNat b.size = ((bs b).length : Int) := by rw [bs_size]; rfl
 rw [F115_eq, F149_is a ha, F149_is b hb, wordKey_or, F150_is, F92_is, hsa, hsb]
 simp only [Option.bind_some]
 rw [F66_is _ (by simp)]
 cases h1 : allDig (bs a) <;> cases h2 : allDig (bs b)
 ·simp
 ·simp
 ·simp
 ·simp only [cond_true, Option.bind_some, orC, if_true]
  by_cases h : cmpI (bs a).length (bs b).length = 0
  ·by_cases h' : cmpT (bs a) (bs b) = 0
   ·simp [h, h']
   ·simp [h, h']
  ·simp [h]
theorem F114_is (xs ys : List ByteArray) (hx : xs.length ≤ 1099511627776) (hxs : ∀ x ∈ xs, x.size ≤ 1099511627776) (hys : ∀ x ∈ ys, x.size ≤ 1099511627776) : F114 (xs, ys, ()) = some (listC cmpW (xs.map bs) (ys.map bs), ()) := by
 rw [F114_eq]
 have key : ∀ (k i : Nat), i + k = xs.length → ∃ e, loop B114_0 (xs, ys, xs, Int.ofNat xs.length, (i : Int), ()) = some e ∧
   Sum.elim (fun (p : Int × Unit) => some (p.1, ())) (fun (p : List ByteArray × List ByteArray × Unit) => bif decide (Int.ofNat (List.length p.1) < Int.ofNat (List.length p.2.1)) then some (Int.negSucc 0, ()) else some (Int.ofNat 0, ())) e = some (listC cmpW ((xs.drop i).map bs) ((ys.drop i).map bs), ()) ∨ ys.length < i := by
  intro k
  induction k with
  | zero =>
   intro i hi
   by_cases hy : ys.length < i
   ·exact ⟨.inl (0, ()), .inr hy⟩
   refine ⟨.inr (xs, ys, ()), .inl ⟨loop_end ?_, ?_⟩⟩
   ·rw [B114_0_eq]
    have e1 : decide ((i : Int) < Int.ofNat xs.length) = false := by simp; omega
    rw [e1]; rfl
   ·rw [List.drop_of_length_le (l := xs) (by omega)]
    simp only [Sum.elim_inr]
    cases hd : ys.drop i with
    | nil =>
     have := List.drop_eq_nil_iff.1 hd
     have e1 : decide (Int.ofNat xs.length < Int.ofNat ys.length) = false := by simp; omega
     rw [e1]; rfl
    | cons y l =>
     have : i < ys.length := by
      rcases Nat.lt_or_ge i ys.length with h | h
      ·exact h
      ·rw [List.drop_of_length_le h] at hd; cases hd
     have e1 : decide (Int.ofNat xs.length < Int.ofNat ys.length) = true := by simp; omega
     rw [e1]; rfl
  | succ k ih =>
   intro i hi
   by_cases hy : ys.length < i
   ·exact ⟨.inl (0, ()), .inr hy⟩
   have hil : i < xs.length := by omega
   have e1 : decide ((i : Int) < Int.ofNat xs.length) = true := by simp; omega
   have e2 : decide (Int.ofNat 0 ≤ (i : Int)) = true := by simp
   have e3 : xs[i]? = some xs[i] := List.getElem?_eq_getElem _
   have hdx : xs.drop i = xs[i] :: xs.drop (i + 1) := List.drop_eq_getElem_cons hil
   by_cases hyi : i < ys.length
   ·have e4 : decide ((i : Int) ≥ Int.ofNat ys.length) = false := by simp; omega
    have e5 : ys[i]? = some ys[i] := List.getElem?_eq_getElem _
    have hdy : ys.drop i = ys[i] :: ys.drop (i + 1) := List.drop_eq_getElem_cons hyi
    have hw := F115_is xs[i] ys[i] (hxs _ (List.getElem_mem _)) (hys _ (List.getElem_mem _))
    by_cases hc : cmpW (bs xs[i]) (bs ys[i]) = 0
    ·obtain ⟨e, h | h⟩ := ih (i + 1) (by omega)
     ·obtain ⟨h1, h2⟩ := h
      refine ⟨e, .inl ⟨loop_step ?_ h1, ?_⟩⟩
      ·rw [B114_0_eq]
       simp only [e1, e2, e4, cond_true, cond_false, Int.toNat_natCast, e3, e5, Option.bind_some, hw, hc]
       rw [show IntKind.wrap IntKind.i64 ((i : Int) + Int.ofNat 1) = ((i + 1 : Nat) : Int) from wrap64s i (by omega)]
       rfl
      ·rw [h2, hdx, hdy]
       simp only [List.map_cons, listC, orC, hc, if_true]
     ·omega
    ·refine ⟨.inl (cmpW (bs xs[i]) (bs ys[i]), ()), .inl ⟨loop_end ?_, ?_⟩⟩
     ·rw [B114_0_eq]
      have : (cmpW (bs xs[i]) (bs ys[i]) == Int.ofNat 0) = false := by simpa using hc
      simp only [e1, e2, e4, cond_true, cond_false, Int.toNat_natCast, e3, e5, Option.bind_some, hw, this, Bool.not_false]
     ·rw [hdx, hdy]
      simp only [List.map_cons, listC, orC, hc, if_false, Sum.elim_inl]
   ·have e4 : decide ((i : Int) ≥ Int.ofNat ys.length) = true := by simp; omega
    refine ⟨.inl (1, ()), .inl ⟨loop_end ?_, ?_⟩⟩
    ·rw [B114_0_eq]
     simp only [e1, e2, e4, cond_true, Int.toNat_natCast, e3, Option.bind_some]
     rfl
    ·rw [hdx, List.drop_of_length_le (l := ys) (by omega)]
     rfl
 obtain ⟨e, h | h⟩ := key xs.length 0 (by omega)
 ·obtain ⟨h1, h2⟩ := h
  have h1' : loop B114_0 (xs, ys, xs, Int.ofNat xs.length, Int.ofNat 0, ()) = some e := h1
  rw [h1']
  simp only [Option.bind_some, List.drop_zero] at h2 ⊢
  exact h2
 ·omega
theorem splitDot_sizes (s : ByteArray) : ∀ x ∈ splitDot s, x.size ≤ s.size := by
 have key : ∀ l : List UInt8, ∀ w ∈ splitB 46 l, w.length ≤ l.length := by
  intro l
  induction l with
  | nil => intro w hw; simp [splitB] at hw; subst hw; simp
  | cons x l ih =>
   intro w hw
   unfold splitB at hw
   split at hw
   ·rcases List.mem_cons.1 hw with rfl | hw
    ·simp
    ·have := ih w hw; simp; omega
   ·split at hw
    ·simp at hw; subst hw; simp
    ·rename_i v vs hs
     rcases List.mem_cons.1 hw with rfl | hw
     ·have := ih v (by rw [hs]; simp); simp; omega
     ·have := ih w (by rw [hs]; simp [hw]); simp; omega
 intro x hx
 unfold splitDot at hx
 obtain ⟨w, h1, rfl⟩ := List.mem_map.1 hx
 have := key _ w h1
 rw [bs_size, bs_size s, bs_lit]
 exact this
theorem F93_is (a b : ByteArray) (ha : a.size ≤ 1099511627000) (hb : b.size ≤ 1099511627000) : F93 (a, b, ()) = some (cmpP (bs a) (bs b), ()) := by
 rw [F93_eq]
 simp only [bs_toList]
 unfold cmpP preKey
 by_cases h1 : bs a = bs b
 ·simp only [h1, beq_self_eq_true, cond_true]
  simp [orC, cmpI, lin_cmpW.list.self]
 ·have e1 : (bs a == bs b) = false := by simpa using h1
  rw [e1]
  simp only [cond_false]
  by_cases h2 : bs a = []
  ·have h3 : bs b ≠ [] := fun h => h1 (by rw [h2, h])
   simp [h2, h3, orC, cmpI]
  ·have e2 : (bs a == []) = false := by simpa using h2
   rw [e2]
   simp only [cond_false]
   by_cases h3 : bs b = []
   ·simp [h2, h3, orC, cmpI]
   ·have e3 : (bs b == []) = false := by simpa using h3
    have hd : lit [46] = dot := rfl
    have hla : (splitDot a).length ≤ 1099511627776 := by
     unfold splitDot
     rw [List.length_map, splitB_length]
     have : (bs a).count 46 ≤ (bs a).length := List.count_le_length
     rw [← bs_size] at this
     omega
    rw [e3, hd, F102_dot a (by omega), F102_dot b (by omega)]
    simp only [cond_false, Option.bind_some]
    rw [F114_is _ _ hla (fun x hx => by have := splitDot_sizes a x hx; omega) (fun x hx => by have := splitDot_sizes b x hx; omega)]
    have hm : ∀ s, (splitDot s).map bs = splitB 46 (bs s) := fun s => by
     unfold splitDot
     rw [List.map_map]
     have : (bs ∘ lit) = id := by funext x; rfl
     rw [this, List.map_id]
    simp [h2, h3, orC, cmpI, hm]
theorem or4 (c1 c2 c3 c4 : Int) : (([c1, c2, c3, c4].find? (· != 0)).getD 0) = orC c1 (orC c2 (orC c3 c4)) := by
 unfold orC
 by_cases h1 : c1 = 0
 ·by_cases h2 : c2 = 0
  ·by_cases h3 : c3 = 0
   ·by_cases h4 : c4 = 0 <;> simp [h1, h2, h3, h4]
   ·simp [h1, h2, h3]
  ·simp [h1, h2]
 ·simp [h1]
def okV (v : Ver) : Bool := decide (v.2.2.2.1.size ≤ 1099511627000)
theorem F67_is (a b : Ver) (ha : okV a = true) (hb : okV b = true) : F67 (a.1, a.2.1, a.2.2.1, a.2.2.2.1, b.1, b.2.1, b.2.2.1, b.2.2.2.1, ()) = some (cmpV a b, ()) := by
 rw [F67_eq, F92_is, F92_is, F92_is, F93_is _ _ (by simpa [okV] using ha) (by simpa [okV] using hb)]
 simp only [Option.bind_some]
 rw [F66_is _ (by simp)]
 simp only [Option.bind_some, cmpV, verKey, or4]
end Go.Vx.Z
/-! Pieces of a line: lists of pieces, put in order. -/
namespace Go.Vx.Pc
set_option linter.unusedVariables false
def mem {α : Type} [LE α] [LT α] (l : List (α × α)) (x : α) : Prop := ∃ p ∈ l, p.1 ≤ x ∧ x < p.2
def Nm {α : Type} [LT α] (l : List (α × α)) : Prop := l.Pairwise (fun p q => p.2 < q.1) ∧ ∀ p ∈ l, p.1 < p.2
theorem mem_nil {α : Type} [LE α] [LT α] [Std.LawfulOrderLT α] [Std.IsLinearOrder α] (x : α) : ¬ mem [] x := by simp [mem]
theorem mem_cons {α : Type} [LE α] [LT α] [Std.LawfulOrderLT α] [Std.IsLinearOrder α] {p : α × α} {l : List (α × α)} {x : α} : mem (p :: l) x ↔ (p.1 ≤ x ∧ x < p.2) ∨ mem l x := by simp [mem]
theorem mem_append {α : Type} [LE α] [LT α] [Std.LawfulOrderLT α] [Std.IsLinearOrder α] {a b : List (α × α)} {x : α} : mem (a ++ b) x ↔ mem a x ∨ mem b x := by
 induction a with
 | nil => simp [mem_nil]
 | cons p a ih => rw [List.cons_append, mem_cons, mem_cons, ih, or_assoc]
theorem mem_perm {α : Type} [LE α] [LT α] [Std.LawfulOrderLT α] [Std.IsLinearOrder α] {a b : List (α × α)} (h : a.Perm b) (x : α) : mem a x ↔ mem b x :=
 ⟨fun ⟨p, h1, h2⟩ => ⟨p, h.mem_iff.1 h1, h2⟩, fun ⟨p, h1, h2⟩ => ⟨p, h.mem_iff.2 h1, h2⟩⟩
theorem nm_cons {α : Type} [LE α] [LT α] [Std.LawfulOrderLT α] [Std.IsLinearOrder α] {p : α × α} {l : List (α × α)} : Nm (p :: l) ↔ p.1 < p.2 ∧ (∀ q ∈ l, p.2 < q.1) ∧ Nm l := by
 simp only [Nm, List.pairwise_cons, List.mem_cons, forall_eq_or_imp]
 constructor
 ·rintro ⟨⟨h1, h2⟩, h3, h4⟩; exact ⟨h3, h1, h2, h4⟩
 ·rintro ⟨h3, h1, h2, h4⟩; exact ⟨⟨h1, h2⟩, h3, h4⟩
theorem nm_head {α : Type} [LE α] [LT α] [Std.LawfulOrderLT α] [Std.IsLinearOrder α] {p : α × α} {l : List (α × α)} (h : Nm (p :: l)) : mem (p :: l) p.1 := by
 have := (nm_cons.1 h).1
 exact mem_cons.2 (.inl ⟨by grind, this⟩)
theorem nm_least {α : Type} [LE α] [LT α] [Std.LawfulOrderLT α] [Std.IsLinearOrder α] {p : α × α} {l : List (α × α)} (h : Nm (p :: l)) {x : α} (hx : mem (p :: l) x) : p.1 ≤ x := by
 obtain ⟨h1, h2, h3⟩ := nm_cons.1 h
 rcases mem_cons.1 hx with h4 | ⟨q, h4, h5, h6⟩
 ·exact h4.1
 ·have := h2 q h4; grind
theorem nm_tail {α : Type} [LE α] [LT α] [Std.LawfulOrderLT α] [Std.IsLinearOrder α] {p : α × α} {l : List (α × α)} (h : Nm (p :: l)) {x : α} (hx : mem l x) : p.2 < x := by
 obtain ⟨h1, h2, h3⟩ := nm_cons.1 h
 obtain ⟨q, h4, h5, h6⟩ := hx
 have := h2 q h4; grind
theorem uniq {α : Type} [LE α] [LT α] [Std.LawfulOrderLT α] [Std.IsLinearOrder α] : ∀ {l l' : List (α × α)}, Nm l → Nm l' → (∀ x, mem l x ↔ mem l' x) → l = l'
 | [], [], _, _, _ => rfl
 | [], p :: l, _, h', h => absurd ((h p.1).2 (nm_head h')) (mem_nil _)
 | p :: l, [], h', _, h => absurd ((h p.1).1 (nm_head h')) (mem_nil _)
 | p :: l, q :: l', h1, h2, h => by
  have a1 : p.1 = q.1 := by
   have e1 := nm_least h2 ((h p.1).1 (nm_head h1))
   have e2 := nm_least h1 ((h q.1).2 (nm_head h2))
   grind
  have n1 := nm_cons.1 h1
  have n2 := nm_cons.1 h2
  have key : ∀ {p q : α × α} {l l' : List (α × α)}, Nm (p :: l) → p.1 = q.1 → q.1 < q.2 → (∀ x, mem (p :: l) x ↔ mem (q :: l') x) → ¬ p.2 < q.2 := by
   intro p q l l' h1 a1 hq h hlt
   have n1 := nm_cons.1 h1
   have : mem (q :: l') p.2 := mem_cons.2 (.inl ⟨by grind, hlt⟩)
   rcases mem_cons.1 ((h p.2).2 this) with h4 | h4
   ·grind
   ·have := nm_tail h1 h4; grind
  have a2 : p.2 = q.2 := by
   have e1 := key h1 a1 n2.1 h
   have e2 := key h2 a1.symm n1.1 (fun x => (h x).symm)
   grind
  have hp : p = q := Prod.ext a1 a2
  subst hp
  congr 1
  refine uniq n1.2.2 n2.2.2 fun x => ⟨fun hx => ?_, fun hx => ?_⟩
  ·rcases mem_cons.1 ((h x).1 (mem_cons.2 (.inr hx))) with h4 | h4
   ·have := nm_tail h1 hx; grind
   ·exact h4
  ·rcases mem_cons.1 ((h x).2 (mem_cons.2 (.inr hx))) with h4 | h4
   ·have := nm_tail h2 hx; grind
   ·exact h4
def mrg {α : Type} [LE α] [LT α] [DecidableLE α] [DecidableLT α] (acc : List (α × α)) (p : α × α) : List (α × α) :=
 match acc.getLast? with
 | none => [p]
 | some q => if p.1 ≤ q.2 then (if q.2 < p.2 then acc.dropLast ++ [(q.1, p.2)] else acc) else acc ++ [p]
theorem nm_append {α : Type} [LE α] [LT α] [Std.LawfulOrderLT α] [Std.IsLinearOrder α] {a : List (α × α)} {q : α × α} : Nm (a ++ [q]) ↔ Nm a ∧ q.1 < q.2 ∧ ∀ r ∈ a, r.2 < q.1 := by
 simp only [Nm, List.pairwise_append, List.mem_append, List.mem_singleton, List.pairwise_cons, List.not_mem_nil, false_imp_iff, implies_true, List.Pairwise.nil, and_true, true_and, forall_eq]
 constructor
 ·rintro ⟨⟨h1, h2⟩, h3⟩
  exact ⟨⟨h1, fun p hp => h3 p (.inl hp)⟩, h3 q (.inr rfl), h2⟩
 ·rintro ⟨⟨h1, h4⟩, h2, h3⟩
  refine ⟨⟨h1, h3⟩, fun p hp => ?_⟩
  rcases hp with hp | rfl
  ·exact h4 p hp
  ·exact h2
theorem mrg_ok {α : Type} [LE α] [LT α] [Std.LawfulOrderLT α] [Std.IsLinearOrder α] [DecidableLE α] [DecidableLT α] {acc : List (α × α)} {p : α × α} (hn : Nm acc) (hp : p.1 < p.2) (hs : ∀ q ∈ acc, q.1 ≤ p.1) :
  Nm (mrg acc p) ∧ (∀ x, mem (mrg acc p) x ↔ mem acc x ∨ (p.1 ≤ x ∧ x < p.2)) ∧ ∀ q ∈ mrg acc p, q.1 ≤ p.1 := by
 unfold mrg
 rcases List.eq_nil_or_concat acc with rfl | ⟨a, q, rfl⟩
 ·refine ⟨nm_cons.2 ⟨hp, by simp, by simp [Nm]⟩, fun x => by simp [mem_cons, mem_nil], by grind⟩
 ·rw [List.concat_eq_append] at *
  obtain ⟨n1, n2, n3⟩ := nm_append.1 hn
  have hq := hs q (by simp)
  simp only [List.getLast?_append, List.getLast?_singleton, Option.some_or, List.dropLast_concat]
  by_cases h1 : p.1 ≤ q.2
  ·rw [if_pos h1]
   by_cases h2 : q.2 < p.2
   ·rw [if_pos h2]
    refine ⟨nm_append.2 ⟨n1, by grind, n3⟩, fun x => ?_, fun r hr => ?_⟩
    ·rw [mem_append, mem_append, mem_cons, mem_cons]
     have := mem_nil x
     constructor
     ·rintro (h | h | h)
      ·exact .inl (.inl h)
      ·by_cases h3 : x < q.2
       ·exact .inl (.inr (.inl ⟨h.1, h3⟩))
       ·exact .inr (by grind)
      ·exact absurd h this
     ·rintro ((h | h | h) | h)
      ·exact .inl h
      ·exact .inr (.inl (by grind))
      ·exact absurd h this
      ·exact .inr (.inl (by grind))
    ·rcases List.mem_append.1 hr with h | h
     ·exact hs r (by simp [h])
     ·simp only [List.mem_singleton] at h; subst h; exact hq
   ·rw [if_neg h2]
    refine ⟨hn, fun x => ⟨.inl, ?_⟩, hs⟩
    rintro (h | h)
    ·exact h
    ·exact mem_append.2 (.inr (mem_cons.2 (.inl (by grind))))
  ·rw [if_neg h1]
   refine ⟨nm_append.2 ⟨hn, hp, fun r hr => ?_⟩, fun x => ?_, fun r hr => ?_⟩
   ·rcases List.mem_append.1 hr with h | h
    ·have := n3 r h; grind
    ·simp only [List.mem_singleton] at h; subst h; grind
   ·rw [mem_append, mem_cons]
    simp [mem_nil]
   ·rcases List.mem_append.1 hr with h | h
    ·exact hs r h
    ·simp only [List.mem_singleton] at h; subst h; grind
theorem fold_ok {α : Type} [LE α] [LT α] [Std.LawfulOrderLT α] [Std.IsLinearOrder α] [DecidableLE α] [DecidableLT α] : ∀ (s acc : List (α × α)), Nm acc → (∀ p ∈ s, p.1 < p.2) → s.Pairwise (fun p q => p.1 ≤ q.1) → (∀ q ∈ acc, ∀ p ∈ s, q.1 ≤ p.1) →
  Nm (s.foldl mrg acc) ∧ ∀ x, mem (s.foldl mrg acc) x ↔ mem acc x ∨ mem s x
 | [], acc, hn, _, _, _ => ⟨hn, fun x => by simp [mem_nil]⟩
 | p :: s, acc, hn, hp, hs, ha => by
  obtain ⟨s1, s2⟩ := List.pairwise_cons.1 hs
  obtain ⟨m1, m2, m3⟩ := mrg_ok hn (hp p (by simp)) (fun q hq => ha q hq p (by simp))
  obtain ⟨r1, r2⟩ := fold_ok s (mrg acc p) m1 (fun q hq => hp q (by simp [hq])) s2 fun q hq r hr => by
   have e1 := m3 q hq
   have e2 := s1 r hr
   grind
  refine ⟨r1, fun x => ?_⟩
  rw [List.foldl_cons, r2, m2, mem_cons, or_assoc]
def full {α : Type} [LT α] [DecidableLT α] (p : α × α) : Bool := decide (p.1 < p.2)
def nf {α : Type} [LE α] [LT α] [DecidableLE α] [DecidableLT α] (l : List (α × α)) : List (α × α) := ((l.filter full).mergeSort fun p q => decide (p.1 ≤ q.1)).foldl mrg []
theorem mem_full {α : Type} [LE α] [LT α] [Std.LawfulOrderLT α] [Std.IsLinearOrder α] [DecidableLE α] [DecidableLT α] (l : List (α × α)) (x : α) : mem (l.filter full) x ↔ mem l x := by
 constructor
 ·rintro ⟨p, h1, h2⟩
  exact ⟨p, (List.mem_filter.1 h1).1, h2⟩
 ·rintro ⟨p, h1, h2, h3⟩
  exact ⟨p, List.mem_filter.2 ⟨h1, by simp only [full, decide_eq_true_eq]; grind⟩, h2, h3⟩
theorem sorted_ok {α : Type} [LE α] [LT α] [Std.LawfulOrderLT α] [Std.IsLinearOrder α] [DecidableLE α] [DecidableLT α] {l s : List (α × α)} (hp : s.Perm (l.filter full)) (hs : s.Pairwise fun p q => p.1 ≤ q.1) : Nm (s.foldl mrg []) ∧ ∀ x, mem (s.foldl mrg []) x ↔ mem l x := by
 obtain ⟨h1, h2⟩ := fold_ok s [] (by simp [Nm]) (fun p h => by
  have := (List.mem_filter.1 (hp.mem_iff.1 h)).2
  simpa [full] using this) hs (by simp)
 refine ⟨h1, fun x => ?_⟩
 rw [h2, mem_perm hp, mem_full]
 simp [mem_nil]
theorem nf_ok {α : Type} [LE α] [LT α] [Std.LawfulOrderLT α] [Std.IsLinearOrder α] [DecidableLE α] [DecidableLT α] (l : List (α × α)) : Nm (nf l) ∧ ∀ x, mem (nf l) x ↔ mem l x := by
 refine sorted_ok (List.mergeSort_perm _ _) ?_
 have := List.pairwise_mergeSort (le := fun p q : α × α => decide (p.1 ≤ q.1)) (fun a b c h1 h2 => by simp only [decide_eq_true_eq] at *; grind) (fun a b => by simp only [Bool.or_eq_true, decide_eq_true_eq]; grind) (l.filter full)
 exact this.imp fun h => by simpa using h
theorem sorted_nf {α : Type} [LE α] [LT α] [Std.LawfulOrderLT α] [Std.IsLinearOrder α] [DecidableLE α] [DecidableLT α] {l s : List (α × α)} (hp : s.Perm (l.filter full)) (hs : s.Pairwise fun p q => p.1 ≤ q.1) : s.foldl mrg [] = nf l := by
 obtain ⟨h1, h2⟩ := sorted_ok hp hs
 obtain ⟨h3, h4⟩ := nf_ok l
 exact uniq h1 h3 fun x => by rw [h2, h4]
theorem nf_nm {α : Type} [LE α] [LT α] [Std.LawfulOrderLT α] [Std.IsLinearOrder α] [DecidableLE α] [DecidableLT α] {l : List (α × α)} (h : Nm l) : nf l = l := uniq (nf_ok l).1 h (nf_ok l).2
/-! Both, none. -/
def meet {α : Type} [LT α] [DecidableLT α] (p q : α × α) : α × α := (if p.1 < q.1 then q.1 else p.1, if q.2 < p.2 then q.2 else p.2)
def meets {α : Type} [LT α] [DecidableLT α] (a b : List (α × α)) : List (α × α) := a.flatMap fun p => b.map (meet p)
theorem mem_meets {α : Type} [LE α] [LT α] [Std.LawfulOrderLT α] [Std.IsLinearOrder α] [DecidableLE α] [DecidableLT α] {a b : List (α × α)} {x : α} : mem (meets a b) x ↔ mem a x ∧ mem b x := by
 constructor
 ·rintro ⟨r, h1, h2, h3⟩
  obtain ⟨p, hp, h1⟩ := List.mem_flatMap.1 h1
  obtain ⟨q, hq, rfl⟩ := List.mem_map.1 h1
  unfold meet at h2 h3
  exact ⟨⟨p, hp, by grind⟩, ⟨q, hq, by grind⟩⟩
 ·rintro ⟨⟨p, hp, h1⟩, ⟨q, hq, h2⟩⟩
  refine ⟨meet p q, List.mem_flatMap.2 ⟨p, hp, List.mem_map.2 ⟨q, hq, rfl⟩⟩, ?_⟩
  unfold meet
  grind
def gaps {α : Type} : α → List (α × α) → α → List (α × α)
 | at_, [], top => [(at_, top)]
 | at_, p :: l, top => (at_, p.1) :: gaps p.2 l top
theorem mem_gaps {α : Type} [LE α] [LT α] [Std.LawfulOrderLT α] [Std.IsLinearOrder α] {top : α} : ∀ {l : List (α × α)} {at_ : α}, Nm l → (∀ p ∈ l, at_ ≤ p.1 ∧ p.2 ≤ top) → ∀ x, mem (gaps at_ l top) x ↔ at_ ≤ x ∧ x < top ∧ ¬ mem l x
 | [], at_, _, _, x => by
  have := mem_nil x
  simp only [gaps, mem_cons]
  grind
 | p :: l, at_, hn, hb, x => by
  obtain ⟨n1, n2, n3⟩ := nm_cons.1 hn
  have b1 := hb p (by simp)
  have ih := mem_gaps (top := top) (l := l) (at_ := p.2) n3 (fun q hq => ⟨by have := n2 q hq; grind, (hb q (by simp [hq])).2⟩) x
  rw [gaps, mem_cons, mem_cons, ih]
  by_cases h : mem l x
  ·have := nm_tail hn h
   grind
  ·grind
end Go.Vx.Pc
/-! Places between versions. -/
namespace Go.Vx
open Go Go.Proofs
set_option linter.unusedVariables false
structure Pt where
 e : Int
 v : Ver
 b : Int
def Pt.key (p : Pt) : Int × Ver × Int := (p.e, p.v, p.b)
def Pt.c (p q : Pt) : Int := (fun (x y : Int × Ver × Int) => orC (cmpI x.1 y.1) (orC (cmpV x.2.1 y.2.1) (cmpI x.2.2 y.2.2))) p.key q.key
theorem lin_pt : Lin Pt.c := (lin_cmpI.prod (lin_cmpV.prod lin_cmpI)).pull Pt.key fun x y h => by
 cases x; cases y
 simp only [Pt.key, Prod.mk.injEq] at h
 obtain ⟨h1, h2, h3⟩ := h
 rw [h1, h2, h3]
theorem Lin.lt_trans {α : Type} {c : α → α → Int} (h : Lin c) {x y z : α} (h1 : c x y ≤ 0) (h2 : c y z ≤ 0) : c x z ≤ 0 := by
 rcases h.rng x y with e | e | e
 ·rcases h.rng y z with f | f | f
  ·rw [h.trans x y z e f]; omega
  ·rw [← (h.eq0 y z).1 f]; omega
  ·omega
 ·rw [(h.eq0 x y).1 e]; exact h2
 ·omega
instance : LE Pt := ⟨fun a b => a.c b ≤ 0⟩
instance : LT Pt := ⟨fun a b => a.c b < 0⟩
theorem pt_le {a b : Pt} : a ≤ b ↔ a.c b ≤ 0 := Iff.rfl
theorem pt_lt {a b : Pt} : a < b ↔ a.c b < 0 := Iff.rfl
instance : DecidableLE Pt := fun a b => inferInstanceAs (Decidable (a.c b ≤ 0))
instance : DecidableLT Pt := fun a b => inferInstanceAs (Decidable (a.c b < 0))
instance : Std.IsLinearOrder Pt where
 le_refl a := by rw [pt_le, lin_pt.self]; omega
 le_trans a b c := fun h1 h2 => lin_pt.lt_trans h1 h2
 le_antisymm a b := fun h1 h2 => by
  rw [pt_le] at *
  rw [lin_pt.anti a b] at h2
  exact (lin_pt.eq0 a b).1 (by omega)
 le_total a b := by
  rw [pt_le, pt_le, lin_pt.anti a b]; omega
instance : Std.LawfulOrderLT Pt where
 lt_iff a b := by rw [pt_lt, pt_le, pt_le, lin_pt.anti a b]; omega
namespace Z
def v0 : Ver := (0, 0, 0, lit [], ())
def ptOf (v : Ver) (b e : Bool) : Pt := if e then ⟨1, v0, 0⟩ else ⟨0, v, if b then 1 else 0⟩
abbrev Piece := Int × Int × Int × ByteArray × Bool × Bool × Int × Int × Int × ByteArray × Bool × Bool × Unit
abbrev Span := Int × Int × Int × ByteArray × Int × Int × Int × ByteArray × Bool × Bool × Bool × Unit
def Piece.fv (p : Piece) : Ver := (p.1, p.2.1, p.2.2.1, p.2.2.2.1, ())
def Piece.tv (p : Piece) : Ver := (p.2.2.2.2.2.2.1, p.2.2.2.2.2.2.2.1, p.2.2.2.2.2.2.2.2.1, p.2.2.2.2.2.2.2.2.2.1, ())
def Piece.fb (p : Piece) : Bool := p.2.2.2.2.1
def Piece.fe (p : Piece) : Bool := p.2.2.2.2.2.1
def Piece.tb (p : Piece) : Bool := p.2.2.2.2.2.2.2.2.2.2.1
def Piece.te (p : Piece) : Bool := p.2.2.2.2.2.2.2.2.2.2.2.1
def Piece.fp (p : Piece) : Pt := ptOf p.fv p.fb p.fe
def Piece.tp (p : Piece) : Pt := ptOf p.tv p.tb p.te
def Piece.pp (p : Piece) : Pt × Pt := (p.fp, p.tp)
def okPc (p : Piece) : Bool := okV p.fv && okV p.tv
theorem F65_is (b : Bool) : F65 (b, ()) = some ((if b then 1 else 0), ()) := by cases b <;> rfl
theorem or2 (a b : Int) : F66 ([a, b], ()) = some (orC a b, ()) := by
 rw [F66_is _ (by simp)]
 congr 2
 simp only [List.find?_cons, List.find?_nil, orC]
 by_cases h1 : a = 0
 ·subst h1
  by_cases h2 : b = 0
  ·subst h2; rfl
  ·have : (b != 0) = true := by simpa using h2
   simp [this]
 ·have : (a != 0) = true := by simpa using h1
  simp [this, h1]
theorem sub_cmp (a b : Bool) : IntKind.wrap IntKind.i64 ((if a then (1 : Int) else 0) - (if b then 1 else 0)) = cmpI (if a then 1 else 0) (if b then 1 else 0) := by
 cases a <;> cases b <;> decide
theorem F40_is (u v : Ver) (a b c d : Bool) (hu : okV u = true) (hv : okV v = true) : F40 (u.1, u.2.1, u.2.2.1, u.2.2.2.1, a, b, v.1, v.2.1, v.2.2.1, v.2.2.2.1, c, d, ()) = some ((ptOf u a b).c (ptOf v c d), ()) := by
 rw [F40_eq]
 simp only [F65_is, Option.bind_some, sub_cmp]
 cases b with
 | true =>
  simp only [cond_true, ptOf, if_true]
  cases d with
  | true => simp only [if_true, lin_pt.self, lin_cmpI.self]
  | false =>
   simp only [Bool.false_eq_true, if_false, Pt.c, Pt.key]
   congr 1
 | false =>
  cases d with
  | true =>
   simp only [cond_true, cond_false, ptOf, if_true, Bool.false_eq_true, if_false, Pt.c, Pt.key]
   congr 1
  | false =>
   simp only [cond_false, ptOf, Bool.false_eq_true, if_false, Pt.c, Pt.key]
   rw [F67_is u v hu hv, Option.bind_some, or2, Option.bind_some]
   have : cmpI 0 0 = 0 := by decide
   rw [this]
   simp only [orC, if_true]
def cmpPc (p q : Piece) : Int := p.fp.c q.fp
theorem F71_is (p q : Piece) (hp : okPc p = true) (hq : okPc q = true) : F71 (toP r8 p (toP r8 q ())) = some (cmpPc p q, ()) := by
 simp only [okPc, Bool.and_eq_true] at hp hq
 show F71 (p.1, p.2.1, p.2.2.1, p.2.2.2.1, p.2.2.2.2.1, p.2.2.2.2.2.1, p.2.2.2.2.2.2.1, p.2.2.2.2.2.2.2.1, p.2.2.2.2.2.2.2.2.1, p.2.2.2.2.2.2.2.2.2.1, p.2.2.2.2.2.2.2.2.2.2.1, p.2.2.2.2.2.2.2.2.2.2.2.1, q.1, q.2.1, q.2.2.1, q.2.2.2.1, q.2.2.2.2.1, q.2.2.2.2.2.1, q.2.2.2.2.2.2.1, q.2.2.2.2.2.2.2.1, q.2.2.2.2.2.2.2.2.1, q.2.2.2.2.2.2.2.2.2.1, q.2.2.2.2.2.2.2.2.2.2.1, q.2.2.2.2.2.2.2.2.2.2.2.1, ()) = _
 rw [F71_eq]
 have := F40_is p.fv q.fv p.fb p.fe q.fb q.fe hp.1 hq.1
 simp only [Piece.fv, Piece.fb, Piece.fe] at this
 rw [this]
 rfl
theorem swo_pc : Sort.SWO (ltOf cmpPc) := swo_at lin_pt.swo Piece.fp
end Z
end Go.Vx
/-! slices.SortFunc over a part of an own list. -/
namespace Go.Vx
open Go Go.RowKit Go.Proofs Go.Shelf Go.Sort
set_option linter.unusedVariables false
set_option linter.unusedSimpArgs false
@[reducible] def shSortP (e : Nat) (r : Ty) (g : Nat) : Shape := ⟨[(0, .one (.os 100000 r.width)), (1, .one (.fn g))], [(100000, .lst e r false)]⟩
def FSortP (r : Ty) (e g : Nat) (ok : r.D → Bool) (cf : r.D → r.D → Int) : (shSortP e r g).D → Option (outSort e r).D := fun p =>
 bif Nat.beq p.1 0 && (Nat.ble p.2.1 p.2.2.1.length && ((p.2.2.1.take p.2.1).all ok && decide ((p.2.2.1.take p.2.1).length < 4611686018427387904))) then some (sortBy cf (p.2.2.1.take p.2.1) ++ p.2.2.1.drop p.2.1, ()) else none
section
variable {P : Program} {ρ : Shelf.Ren}
theorem sort_part_ok (L : SlLaysF0.n6 P ρ) (none_ok : ∀ (p : Option Addr) (cap : Nat) (fv : Value) (w : World), Calls P (ρ.f 6) #[.slice p 0 cap, fv] w fun e w' => e = .returned (.tuple #[]) ∧ w' = w)
  (ents : ∀ args w, (callFunc (ρ.f 6) args).run P w = .ok (.enter (ρ.f 6) args) w)
  {r : Ty} {e g : Nat} (aE : ∀ w, (Go.isAgg (ρ.t 24)).run P w = .ok true w) (zE : ∀ w, (Go.sizeOf (ρ.t 24)).run P w = .ok r.width w)
  {Fc : (shCmp r).D → Option outI.D} (hc : FEOK P ⟨g, shCmp r, outI, Fc⟩) (eg : ∀ args w, (callFunc g args).run P w = .ok (.enter g args) w)
  (cf : r.D → r.D → Int) (ok : r.D → Bool) (hcf : ∀ x y, ok x = true → ok y = true → Fc (toP r x (toP r y ())) = some (cf x y, ())) (hO : SWO (ltOf cf)) :
  FEOK P ⟨ρ.f 6, shSortP e r g, outSort e r, FSortP r e g ok cf⟩ := by
 intro p res hF gh w args hsz hH hargs hgd
 obtain ⟨lo, hi, zs, u⟩ := p
 unfold FSortP at hF
 simp only at hF
 cases hcond : (Nat.beq lo 0 && (Nat.ble hi zs.length && ((zs.take hi).all ok && decide ((zs.take hi).length < 4611686018427387904)))) with
 | false => rw [hcond] at hF; cases hF
 | true =>
 rw [hcond] at hF
 simp only [cond_true, Option.some.injEq] at hF
 subst hF
 rw [Bool.and_eq_true, Bool.and_eq_true, Bool.and_eq_true, decide_eq_true_eq, List.all_eq_true] at hcond
 obtain ⟨hlo, hhi, hok, hlen⟩ := hcond
 obtain rfl : lo = 0 := Nat.eq_of_beq_eq_true hlo
 have hhi : hi ≤ zs.length := Nat.le_of_ble_eq_true hhi
 have hm : (embed (shSortP e r g) (0, hi, zs, u)).blk 100000 = some (.lst e r zs false) := rfl
 obtain ⟨h1a, _, a0, n0, c0, pa, pc, hval, hin, h1b, hcap, _, hsome⟩ : RepC gh (embed (shSortP e r g) (0, hi, zs, u)).blk w (.os 100000 0 hi r.width) (args.getD 0 undef) := hargs 0
 have h2 : args.getD 1 undef = .func (.func g) #[] #[] := hargs 1
 have hargs2 : args = #[.slice pa (hi - 0) pc, .func (.func g) #[] #[]] := by
  have hsz : args.size = 2 := hsz
  apply Array.ext
  ·simpa using hsz
  ·intro i q1 q2
   simp at q2
   match i, q2 with
   | 0, _ => simpa [Array.getD, q1] using h1b
   | 1, _ => simpa [Array.getD, q1] using h2
 obtain ⟨vs0, hown, hvs0, hw0, _⟩ := hH.blk 100000 _ hm
 refine .inr ⟨ents _ _, ?_⟩
 rw [hargs2]
 -- the end, from a world that holds the new row
 have fin : ∀ (w' : World) (ys : List r.D) (vs' : List Value) (gb : Nat), gh.blk 100000 = some gb → w.grownBy w' (some gb) → w.drawn ≤ w'.drawn → w'.ownsRow 0 e r.width (gh.val 100000) ys.length vs' → RepCs gh (embed (shSortP e r g) (0, hi, zs, u)).blk w (rowsCells r ys) vs' →
   Ret (outSort e r) (ys, ()) gh (embed (shSortP e r g) (0, hi, zs, u)).blk w (.tuple #[]) w' := by
  intro w' ys vs' gb hgb hG hdr ho hr
  have hput := heap_put hH hm rfl (b' := .lst e r ys false) rfl hgb (fun x h => by obtain ⟨h, _⟩ := h; cases h) hdr hG (fun hc hext => by
   exact ⟨vs', ho, repCs_mono (g := gh) (g' := gh) (m := (embed (shSortP e r g) (0, hi, zs, u)).blk) (fun _ h => h) hc hext hr, hw0, fun hf => by cases hf⟩)
  obtain ⟨hH2, hT2, _⟩ := hput
  have hme : upd (embed (shSortP e r g) (0, hi, zs, u)).blk 100000 (.lst e r ys false) = (embed (outSort e r) (ys, ())).blk := by
   funext i
   show (bif Nat.beq 100000 i then some _ else lookM i _) = lookM i _
   simp only [embed, emMem, emBlk, lookM]
   cases Nat.beq 100000 i <;> rfl
  rw [hme] at hH2 hT2
  exact ⟨gh, hH2, hT2, ⟨#[], rfl, .nil⟩⟩
 rw [show hi - 0 = hi from Nat.sub_zero hi] at *
 by_cases hz : hi = 0
 ·subst hz
  refine Calls.mono (none_ok _ pc _ w) fun ev w' ⟨he, hw⟩ => ⟨_, he, ?_⟩
  subst hw
  have hme : (embed (shSortP e r g) (0, 0, zs, u)).blk = (embed (outSort e r) (sortBy cf (zs.take 0) ++ zs.drop 0, ())).blk := by funext i; rfl
  refine ⟨gh, ?_, ?_, ⟨#[], rfl, .nil⟩⟩
  ·rw [← hme]; exact hH
  ·rw [← hme]; exact Tr.refl _ _ _
 rcases hown.2 with ⟨hv, h0⟩ | ⟨gb, cap, cur, hv, _, hg, hnc, hcm, hcs, htk⟩
 ·omega
 ·have hgb : gh.blk 100000 = some gb := by simp [Gh.blk, hv, blockOfV]
  have hglt : gb < w.heap.size := (Array.getElem?_eq_some_iff.1 hg).1
  obtain ⟨bb, hb1, hb2⟩ := hsome (by omega)
  have hpa : pa = some ⟨gb, 0, none⟩ := by
   rw [hv] at hval
   injection hval with e1 e2 e3
   rw [hb1] at e1
   injection e1 with e1
   injection e1 with e1
   rw [hb2, Nat.zero_mul, e1]
  rw [hpa]
  have hvs : RepCs gh (embed (shSortP e r g) (0, hi, zs, u)).blk w (rowsCells r (zs.take hi)) (vs0.take (hi * r.width)) := by
   rw [← rowsCells_take zs hi hhi]; exact hvs0.take _
  have hvl0 : vs0.length = zs.length * r.width := hown.1
  have hvl1 : (vs0.take (hi * r.width)).length = hi * r.width := by
   rw [List.length_take, hvl0]
   exact Nat.min_eq_left (Nat.mul_le_mul_right _ hhi)
  have hXl : (zs.take hi).length = hi := by rw [List.length_take]; omega
  have hvat : ∀ j, j < hi * r.width → (vs0.take (hi * r.width))[j]? = vs0[j]? := fun j hj => by rw [List.getElem?_take, if_pos hj]
  generalize hvs1 : vs0.take (hi * r.width) = vs at hvs hvl1 hvat
  generalize hxs1 : zs.take hi = xs at hvs hXl hok hlen
  cases xs with
  | nil => simp at hXl; omega
  | cons x0 l =>
   generalize hX : x0 :: l = X at *
   have hX0 : 0 < X.length := by rw [← hX]; simp
   have hvl : vs.length = X.length * r.width := by rw [hXl, hvl1]
   have hclamp : ∀ i, (if i < X.length then i else 0) < X.length := fun i => by split <;> omega
   have henc : ∀ i, (vsAt r.width vs X.length i).length = r.width := fun i => by
    unfold vsAt
    rw [List.length_take, List.length_drop, hvl]
    have := Nat.mul_le_mul_right r.width (show (if i < X.length then i else 0) + 1 ≤ X.length from hclamp i)
    rw [Nat.add_mul, Nat.one_mul] at this
    omega
   have hrep : ∀ i, RepCs gh (embed (shSortP e r g) (0, hi, zs, u)).blk w (cellsOf r (X.getD i x0)) (vsAt r.width vs X.length i) := fun i => by
    unfold vsAt
    have hi := hclamp i
    have hgx : X[if i < X.length then i else 0]? = some (X.getD i x0) := by
     split
     ·rename_i hlt; simp [List.getD, hlt]
     ·rename_i hlt
      rw [show X.getD i x0 = x0 by simp [List.getD, Nat.le_of_not_lt hlt], ← hX]
      rfl
    rw [← rowsCells_at X _ _ hgx]
    exact (hvs.drop _).take _
   have hone : ∀ i, ∀ v ∈ vsAt r.width vs X.length i, v.oneCell' = true := fun i => repCs_one (hrep i) (cellsOf_ok _)
   have hokX : ∀ i, ok (X.getD i x0) = true := fun i => by
    refine hok _ ?_
    by_cases hlt : i < X.length
    ·simp only [List.getD, List.getElem?_eq_getElem hlt, Option.getD_some]; exact List.getElem_mem hlt
    ·rw [show X.getD i x0 = x0 by simp [List.getD, Nat.le_of_not_lt hlt], ← hX]; simp
   let cI : Nat → Nat → Int := fun i j => cf (X.getD i x0) (X.getD j x0)
   have hOI : SWO (ltOf cI) := swo_at hO fun i => X.getD i x0
   have hflat : (flatK (vsAt r.width vs X.length) r.width (Array.range X.length)).toList = vs := by
    rw [flatK_toList _ _ henc, Array.toList_range]
    have key : ∀ n, n ≤ X.length → (List.range n).flatMap (vsAt r.width vs X.length) = vs.take (n * r.width) := by
     intro n
     induction n with
     | zero => intro _; simp
     | succ n ih =>
      intro hn
      rw [List.range_succ, List.flatMap_append, ih (by omega), List.flatMap_cons, List.flatMap_nil, List.append_nil]
      unfold vsAt
      rw [if_pos (by omega), Nat.add_mul, Nat.one_mul, List.take_add]
    rw [key _ (Nat.le_refl _), ← hvl, List.take_length]
   have hHK : HoldsK (vsAt r.width vs X.length) r.width w gb 0 (Array.range X.length) := by
    intro j hj
    rw [size_flatK, Array.size_range] at hj
    rw [Nat.zero_add]
    have hown' : w.ownsRow 0 e r.width (.slice (some ⟨gb, 0, none⟩) zs.length cap) zs.length vs0 := by rw [← hv]; exact hown
    have hjz : j < zs.length * r.width := Nat.lt_of_lt_of_le (by rw [← hXl]; exact hj) (Nat.mul_le_mul_right _ hhi)
    refine ⟨?_, hown'.frozenAt j⟩
    rw [hown'.cellAt j hjz, ← hvat j (by rw [← hXl]; exact hj)]
    have e1 := get_flatK (vsAt r.width vs X.length) r.width (Array.range X.length) j (by simpa using hj)
    have hlt : j < (flatK (vsAt r.width vs X.length) r.width (Array.range X.length)).size := by simpa using hj
    rw [getElem!_pos _ j hlt, ← Array.getElem_toList]
    simp only [hflat]
    rw [List.getElem?_eq_getElem (by rw [hvl]; exact hj)]
    rfl
   -- the stable cells lie elsewhere
   have hng : ∀ x, gh.S x → x.block ≠ gb := fun x hx e' => by
    have := hH.sep x hx 100000 _ hm (by rw [hgb, e'])
    obtain ⟨h, _⟩ := this
    cases h
   have hheap : ∀ m os dk k, k ≠ gb → k < w.heap.size → (sortWorldK (vsAt r.width vs X.length) r.width w gb 0 m dk os).heap[k]? = w.heap[k]? := by
    intro m os dk k hk hlt
    unfold sortWorldK putRowK putRow mapBlock grow Sort.ahead
    simp only
    rw [Array.getElem?_append_left (by simpa using hlt), Array.getElem?_modify, if_neg (Ne.symm hk)]
   have hsize : ∀ m os dk, w.heap.size ≤ (sortWorldK (vsAt r.width vs X.length) r.width w gb 0 m dk os).heap.size := by
    intro m os dk
    unfold sortWorldK putRowK putRow mapBlock grow Sort.ahead
    simp
   have hcell : ∀ m os dk x, gh.S x → (sortWorldK (vsAt r.width vs X.length) r.width w gb 0 m dk os).cell? x = w.cell? x := fun m os dk x hx =>
    World.cell?_of_block (hheap m os dk x.block (hng x hx) (hH.S_lt hx))
   have hcmp : CmpLays P g #[] (vsAt r.width vs X.length) r.width cI gb 0 (Array.range X.length).size w := by
    intro m os dk hdk i j
    generalize hWd : sortWorldK (vsAt r.width vs X.length) r.width w gb 0 m dk os = W
    have hcW : ∀ x, gh.S x → W.cell? x = w.cell? x := fun x hx => by rw [← hWd]; exact hcell m os dk x hx
    have hHW : HeapOK gh (fun _ => none) W := ⟨⟨fun id b h => (by cases h), fun i j b c h => (by cases h), fun x hx id b h => (by cases h), fun x hx => by
     obtain ⟨q1, v, q2⟩ := hH.st x hx
     exact ⟨q1, v, by rw [hcW x hx]; exact q2⟩⟩, fun k cs hK => by
     obtain ⟨⟨e0, fz, g1⟩, g2⟩ := hH.gr k cs hK
     refine ⟨⟨e0, fz, ?_⟩, fun id b h => (by cases h)⟩
     rw [← hWd, hheap _ _ _ k (fun e' => g2 100000 _ hm rfl (by rw [hgb, e'])) (Array.getElem?_eq_some_iff.1 g1).1]
     exact g1⟩
    have hrW : ∀ i, RepCs gh (fun _ => none) W (cellsOf r (X.getD i x0)) (vsAt r.width vs X.length i) := fun i => by
     refine all2_of_mem (fun a ha v hv => ?_) (hrep i)
     obtain ⟨t, y, rfl⟩ := cellsOf_c ha
     exact repD_mono (S := gh.S) (w := w) (fun _ h => h) hcW (hv : RepD gh.S w t y v)
    have hFc := hcf _ _ (hokX i) (hokX j)
    have henv : (embed (shCmp r) (toP r (X.getD i x0) (toP r (X.getD j x0) ()))).env = [(0, .v (.row (cellsOf r (X.getD i x0)))), (1, .v (.row (cellsOf r (X.getD j x0))))] := by
     simp only [embed, emEnv, emA1, em_toP]
    have hdoes := hc _ _ hFc gh W #[.agg (vsAt r.width vs X.length i).toArray, .agg (vsAt r.width vs X.length j).toArray] rfl hHW (fun t => by
     show RepV gh (fun _ => none) W (lookE t (embed (shCmp r) (toP r (X.getD i x0) (toP r (X.getD j x0) ()))).env) _
     rw [henv]
     match t with
     | 0 => exact ⟨_, rfl, by simpa using hrW i⟩
     | 1 => exact ⟨_, rfl, by simpa using hrW j⟩
     | t + 2 => trivial) hgd
    rcases hdoes with ⟨v, w', q1, _⟩ | ⟨_, q2⟩
    ·rw [eg] at q1; cases q1
    ·refine Calls.mono q2 fun ev w' ⟨v, he, gh', hH', hT', hres⟩ => ?_
     have hv' : v = .int .i64 (cI i j) := hres
     refine ⟨by rw [he, hv'], ?_⟩
     exact world_grown hT'.os hT'.tape hT'.output hT'.size (fun k hk => hT'.same k hk fun id b h => by cases h) hT'.drawn
   have hcon := AnyQ.slices_SortFunc_eq L r.width aE zE (vsAt r.width vs X.length) henc hone cI hOI g #[] gb 0 pc (Array.range X.length) w eg hcmp hHK hglt (by simpa using hlen)
   rw [show (Array.range X.length).size = X.length by simp, show (Value.slice (some ⟨gb, 0, none⟩) X.length pc) = Value.slice (some ⟨gb, 0, none⟩) hi pc by rw [hXl]] at hcon
   refine Calls.mono hcon fun ev w' ⟨he, n, os, hw'⟩ => ⟨_, he, ?_⟩
   -- the new row
   have hperm := pdq_range hOI X.length
   generalize hD : Sort.pdq (ltOf cI) (Array.range X.length) 0 X.length (Lib.bitLen X.length) true true = D at hw'
   have hDl : sortIdx (ltOf cI) X.length = D.toList := by rw [← hD]; rfl
   rw [hDl] at hperm
   have hDs : D.size = X.length := by have := hperm.length_eq; simpa using this
   have hys : sortBy cf X = D.toList.map fun i => X.getD i x0 := by
    rw [← hDl]
    have : ∀ Y : List r.D, x0 :: l = Y → sortBy cf Y = (sortIdx (ltOf fun i j => cf (Y.getD i x0) (Y.getD j x0)) Y.length).map fun i => Y.getD i x0 := by
     intro Y hY
     subst hY
     rfl
    exact this X hX
   rw [hys]
   have hF := flatK_toList (vsAt r.width vs X.length) r.width henc D
   have hFs : (flatK (vsAt r.width vs X.length) r.width D).size = X.length * r.width := by rw [size_flatK, hDs]
   have hFl : (D.toList.flatMap (vsAt r.width vs X.length)).length = hi * r.width := by rw [← hF, Array.length_toList, hFs, hXl]
   have hDl2 : D.toList.length = hi := by rw [← hXl, ← hDs]; simp
   have hyl : (D.toList.map (fun i => X.getD i x0) ++ zs.drop hi).length = zs.length := by
    rw [List.length_append, List.length_map, hDl2, List.length_drop]; omega
   have hmul : hi * r.width ≤ zs.length * r.width := Nat.mul_le_mul_right _ hhi
   refine fin w' _ (D.toList.flatMap (vsAt r.width vs X.length) ++ vs0.drop (hi * r.width)) gb hgb ?_ ?_ ?_ ?_
   ·refine ⟨by rw [hw']; rfl, by rw [hw']; rfl, by rw [hw']; rfl, by rw [hw']; exact hsize n os D, fun k hk hne => by rw [hw']; exact hheap n os D k (fun e' => hne (by rw [e'])) hk⟩
   ·rw [hw']
    show w.drawn ≤ w.drawn + n
    omega
   ·rw [hv, hyl]
    refine ⟨by rw [List.length_append, hFl, List.length_drop, hvl0]; omega, .inr ⟨gb, cap, putCells id 0 (flatK (vsAt r.width vs X.length) r.width D) cur, rfl, Nat.zero_le _, ?_, hnc, hcm, by unfold putCells; rw [Array.size_mapIdx]; exact hcs, ?_⟩⟩
    ·rw [hw']
     unfold sortWorldK putRowK putRow mapBlock grow Sort.ahead
     simp only
     rw [Array.getElem?_append_left (by simpa using hglt), Array.getElem?_modify, if_pos rfl, hg]
     rfl
    ·apply List.ext_getElem?
     intro t
     rw [List.getElem?_take]
     have hle : zs.length * r.width ≤ cap * r.width := Nat.mul_le_mul_right _ hnc
     split
     ·rename_i hlt
      have htc : t < cur.size := by rw [hcs]; omega
      rw [Array.getElem?_toList]
      unfold putCells
      rw [Array.getElem?_mapIdx, Array.getElem?_eq_getElem htc]
      simp only [Option.map_some, Nat.zero_le, Nat.zero_add, true_and, Nat.sub_zero, id_eq]
      by_cases hth : t < hi * r.width
      ·have htF : t < (flatK (vsAt r.width vs X.length) r.width D).size := by rw [hFs, hXl]; exact hth
       rw [if_pos htF, getElem!_pos _ t htF, List.getElem?_append_left (by rw [hFl]; exact hth), ← hF, Array.getElem?_toList, Array.getElem?_eq_getElem htF]
      ·rw [if_neg (by rw [hFs, hXl]; exact hth), List.getElem?_append_right (by rw [hFl]; omega), hFl, List.getElem?_drop, show hi * r.width + (t - hi * r.width) = t by omega, ← htk, List.getElem?_take, if_pos hlt, Array.getElem?_toList, Array.getElem?_eq_getElem htc]
     ·rename_i hlt
      rw [List.getElem?_eq_none (by rw [List.length_append, hFl, List.length_drop, hvl0]; omega)]
   ·have : ∀ (M : List Nat), RepCs gh (embed (shSortP e r g) (0, hi, zs, u)).blk w (rowsCells r (M.map fun i => X.getD i x0)) (M.flatMap (vsAt r.width vs X.length)) := by
     intro M
     induction M with
     | nil => exact .nil
     | cons i M ih =>
      rw [List.map_cons, List.flatMap_cons]
      unfold rowsCells
      rw [List.flatMap_cons]
      exact All2.append (hrep i) ih
    rw [rowsCells_app, ← rowsCells_drop zs hi hhi]
    exact All2.append (this _) (hvs0.drop _)
end
end Go.Vx
namespace Go.Proofs
open Go.Shelf
def Tryz.sortPc_ren : Go.Shelf.Ren := ⟨fun | 6 => 70 | 15 => 95 | 14 => 94 | 28 => 124 | 29 => 125 | 20 => 116 | 21 => 117 | 22 => 118 | 23 => 119 | 24 => 120 | 25 => 121 | 26 => 122 | 27 => 123 | 46 => 151 | 47 => 152 | 48 => 153 | 49 => 154 | 50 => 155 | 57 => 172 | n => n, fun | 22 => 63 | 24 => 68 | 25 => 101 | 3 => 3 | 39 => 128 | 0 => 0 | 53 => 151 | 55 => 153 | 4 => 4 | 46 => 145 | 45 => 144 | 50 => 94 | 5 => 5 | 9 => 9 | 66 => 171 | 70 => 134 | 76 => 187 | 77 => 188 | n => n, fun | n => n⟩
theorem Tryz.sortPc : Go.Proofs.SlLaysF0.n6 Tryz.prog Tryz.sortPc_ren := {
 mixed := by kernel_rfl,
 f6 := ⟨Tryz.f70.name, by decide, Tryz.func70.trans (congrArg some (by kernel_rfl))⟩,
 f14 := ⟨Tryz.f94.name, by decide, Tryz.func94.trans (congrArg some (by kernel_rfl))⟩,
 f15 := Tryz.func95.trans (congrArg some (by kernel_rfl)),
 f20 := ⟨Tryz.f116.name, by decide, Tryz.func116.trans (congrArg some (by kernel_rfl))⟩,
 f21 := ⟨Tryz.f117.name, by decide, Tryz.func117.trans (congrArg some (by kernel_rfl))⟩,
 f22 := ⟨Tryz.f118.name, by decide, Tryz.func118.trans (congrArg some (by kernel_rfl))⟩,
 f23 := ⟨Tryz.f119.name, by decide, Tryz.func119.trans (congrArg some (by kernel_rfl))⟩,
 f24 := ⟨Tryz.f120.name, by decide, Tryz.func120.trans (congrArg some (by kernel_rfl))⟩,
 f25 := ⟨Tryz.f121.name, by decide, Tryz.func121.trans (congrArg some (by kernel_rfl))⟩,
 f26 := ⟨Tryz.f122.name, by decide, Tryz.func122.trans (congrArg some (by kernel_rfl))⟩,
 f27 := ⟨Tryz.f123.name, by decide, Tryz.func123.trans (congrArg some (by kernel_rfl))⟩,
 f28 := Tryz.func124.trans (congrArg some (by kernel_rfl)),
 f29 := Tryz.func125.trans (congrArg some (by kernel_rfl)),
 f46 := ⟨Tryz.f151.name, by decide, Tryz.func151.trans (congrArg some (by kernel_rfl))⟩,
 f47 := Tryz.func152.trans (congrArg some (by kernel_rfl)),
 f48 := Tryz.func153.trans (congrArg some (by kernel_rfl)),
 f49 := ⟨Tryz.f154.name, by decide, Tryz.func154.trans (congrArg some (by kernel_rfl))⟩,
 f50 := ⟨Tryz.f155.name, by decide, Tryz.func155.trans (congrArg some (by kernel_rfl))⟩,
 f57 := ⟨Tryz.f172.name, by decide, Tryz.func172.trans (congrArg some (by kernel_rfl))⟩,
 t0 := Tryz.underlying0,
 a0 := Tryz.isAgg0,
 z0 := Tryz.sizeOf0,
 v0 := Tryz.zeroValue0,
 t3 := Tryz.underlying3,
 a3 := Tryz.isAgg3,
 z3 := Tryz.sizeOf3,
 v3 := Tryz.zeroValue3,
 t4 := Tryz.underlying4,
 a4 := Tryz.isAgg4,
 z4 := Tryz.sizeOf4,
 v4 := Tryz.zeroValue4,
 t5 := Tryz.underlying5,
 a5 := Tryz.isAgg5,
 z5 := Tryz.sizeOf5,
 v5 := Tryz.zeroValue5,
 t9 := Tryz.underlying9,
 a9 := Tryz.isAgg9,
 z9 := Tryz.sizeOf9,
 v9 := Tryz.zeroValue9,
 t22 := Tryz.underlying63,
 a22 := Tryz.isAgg63,
 z22 := Tryz.sizeOf63,
 v22 := Tryz.zeroValue63,
 t25 := Tryz.underlying101,
 a25 := Tryz.isAgg101,
 z25 := Tryz.sizeOf101,
 v25 := Tryz.zeroValue101,
 t39 := Tryz.underlying128,
 a39 := Tryz.isAgg128,
 z39 := Tryz.sizeOf128,
 v39 := Tryz.zeroValue128,
 t45 := Tryz.underlying144,
 a45 := Tryz.isAgg144,
 z45 := Tryz.sizeOf144,
 v45 := Tryz.zeroValue144,
 t46 := Tryz.underlying145,
 a46 := Tryz.isAgg145,
 z46 := Tryz.sizeOf145,
 v46 := Tryz.zeroValue145,
 t50 := Tryz.underlying94,
 a50 := Tryz.isAgg94,
 z50 := Tryz.sizeOf94,
 v50 := Tryz.zeroValue94,
 t53 := Tryz.underlying151,
 a53 := Tryz.isAgg151,
 z53 := Tryz.sizeOf151,
 v53 := Tryz.zeroValue151,
 t55 := Tryz.underlying153,
 a55 := Tryz.isAgg153,
 z55 := Tryz.sizeOf153,
 v55 := Tryz.zeroValue153,
 t66 := Tryz.underlying171,
 a66 := Tryz.isAgg171,
 z66 := Tryz.sizeOf171,
 v66 := Tryz.zeroValue171,
 t70 := Tryz.underlying134,
 a70 := Tryz.isAgg134,
 z70 := Tryz.sizeOf134,
 v70 := Tryz.zeroValue134,
 t76 := Tryz.underlying187,
 a76 := Tryz.isAgg187,
 z76 := Tryz.sizeOf187,
 v76 := Tryz.zeroValue187,
 t77 := Tryz.underlying188,
 a77 := Tryz.isAgg188,
 z77 := Tryz.sizeOf188,
 v77 := Tryz.zeroValue188 }
end Go.Proofs
namespace Go.Vx.Z
open Go Go.Vx Go.Proofs
set_option linter.unusedVariables false
noncomputable def F70 : Nat × Nat × List R8 × Unit → Option (List R8 × Unit) := FSortP r8 68 71 okPc cmpPc
noncomputable def e70 : FE := ⟨70, shSortP 68 r8 71, outSort 68 r8, F70⟩
theorem ok70 : FEOK Tryz.prog e70 :=
 sort_part_ok (P := Tryz.prog) (ρ := Tryz.sortPc_ren) Tryz.sortPc (fun p cap fv w => AnyF.slices_SortFunc_none Tryz.sortPc p cap fv w) (enters_of Tryz.func70 (by kernel_rfl) rfl) (r := r8) (e := 68) (g := 71) Tryz.isAgg68 Tryz.sizeOf68
  (Fc := F71) ok71 (enters_of Tryz.func71 (by kernel_rfl) rfl) cmpPc okPc F71_is swo_pc
end Go.Vx.Z
namespace Go.Vx.Z
noncomputable section
open Go Go.Vx Go.Proofs
set_option linter.unusedVariables false
set_option maxRecDepth 1000000
set_option maxHeartbeats 4000000

abbrev sh41 : Shape := ⟨[(0, .one (.own 100000))], [(100000, .lst 68 r8 false)]⟩
abbrev out41 : Shape := ⟨[(0, .one (.d (.list r7)))], [(100000, .lst 68 r8 false)]⟩
def b41 : Code := Tryz.f41.body.getD .skip
abbrev sh41_0 : Shape := ⟨[(3, .one (.own 200000)), (14, .one (.os 100000 12)), (15, .one (.d (.int .i64))), (16, .one (.d (.int .i64)))], [(100000, .lst 68 r8 false), (200000, .lst 68 r8 false)]⟩
abbrev os41_0 : List (XE × Shape) := [(.ex 0, ⟨[(3, .one (.own 200000))], [(100000, .lst 68 r8 false), (200000, .lst 68 r8 false)]⟩)]
def cx41_0 : Cx := ⟨Tryz.prog, [e40, e68, e70, e72], [53, 54], 84, [], []⟩
def B41_0 : Nat × Nat × Int × Int × List R8 × List R8 × Unit → Option ((Nat × Nat × Int × Int × List R8 × List R8 × Unit) ⊕ List R8 × List R8 × Unit) := round cx41_0 (sub [1, 1, 1, 1, 0, 1, 0, 0] b41) sh41_0 os41_0
def ce41_0 : CE := ⟨sh41_0, os41_0, loop B41_0⟩
theorem okc41_0 : CEOK Tryz.prog 84 (.at (.loop (sub [1, 1, 1, 1, 0, 1, 0, 0] b41))) ce41_0 := round_ok (cx := cx41_0) (fun R => step_sound (all_fe (P := Tryz.prog) (l := [e40, e68, e70, e72]) ⟨ok40, ok68, ok70, ok72, trivial⟩) R) (needs_of (l := []) (by kernel_rfl) trivial) sh41_0 os41_0
abbrev sh41_1 : Shape := ⟨[(7, .one (.own 200000)), (56, .one (.own 200001)), (57, .one (.d (.int .i64))), (58, .one (.d (.int .i64)))], [(100000, .lst 68 r8 false), (200000, .lst 57 r7 true), (200001, .lst 68 r8 false)]⟩
abbrev os41_1 : List (XE × Shape) := [(.ex 2, ⟨[(7, .one (.own 200000))], [(100000, .lst 68 r8 false), (200000, .lst 57 r7 true)]⟩)]
def cx41_1 : Cx := ⟨Tryz.prog, [e40, e68, e70, e72], [53, 54], 84, [(10, ce41_0)], []⟩
def B41_1 : Int × Int × List R8 × List R7 × List R8 × Unit → Option ((Int × Int × List R8 × List R7 × List R8 × Unit) ⊕ List R8 × List R7 × Unit) := round cx41_1 (sub [1, 1, 1, 1, 1, 1, 0, 1, 0, 0] b41) sh41_1 os41_1
def ce41_1 : CE := ⟨sh41_1, os41_1, loop B41_1⟩
theorem okc41_1 : CEOK Tryz.prog 84 (.at (.loop (sub [1, 1, 1, 1, 1, 1, 0, 1, 0, 0] b41))) ce41_1 := round_ok (cx := cx41_1) (fun R => step_sound (all_fe (P := Tryz.prog) (l := [e40, e68, e70, e72]) ⟨ok40, ok68, ok70, ok72, trivial⟩) R) (needs_of (l := []) (by kernel_rfl) trivial) sh41_1 os41_1
def cx41 : Cx := ⟨Tryz.prog, [e40, e68, e70, e72], [53, 54], 84, [(10, ce41_0), (30, ce41_1)], []⟩
def F41 : List R8 × Unit → Option (List R7 × List R8 × Unit) := func cx41 Tryz.f41 b41 sh41 out41
def e41 : FE := ⟨41, sh41, out41, F41⟩
theorem ok41 : FEOK Tryz.prog e41 := func_ok (cx := cx41) (fn := Tryz.f41) (c := b41) (all_fe (P := Tryz.prog) (l := [e40, e68, e70, e72]) ⟨ok40, ok68, ok70, ok72, trivial⟩) (by kernel_rfl) (by kernel_rfl) (by kernel_rfl) (by kernel_rfl) (by kernel_rfl) (needs_of (l := [((.at (.loop (sub [1, 1, 1, 1, 0, 1, 0, 0] b41))), ce41_0), ((.at (.loop (sub [1, 1, 1, 1, 1, 1, 0, 1, 0, 0] b41))), ce41_1)]) (by kernel_rfl) ⟨okc41_0, okc41_1, trivial⟩)
abbrev sh16 : Shape := ⟨[(0, .one (.d (.list r7))), (1, .one (.d (.list r7)))], []⟩
abbrev out16 : Shape := ⟨[(0, .one (.d (.list r7)))], []⟩
def b16 : Code := Tryz.f16.body.getD .skip
abbrev sh16_0 : Shape := ⟨[(1, .one (.d (.list r7))), (5, .one (.own 200000)), (7, .one (.ptr 200001 0)), (12, .one (.own 200002)), (13, .one (.d (.int .i64))), (14, .one (.d (.int .i64))), (19, .one (.own 200003)), (20, .one (.d (.int .i64))), (21, .one (.d (.int .i64)))], [(200000, .lst 68 r8 false), (200001, .box 68 [.d (.int .i64), .d (.int .i64), .d (.int .i64), .d .str, .d .bool, .d .bool, .d (.int .i64), .d (.int .i64), .d (.int .i64), .d .str, .d .bool, .d .bool]), (200002, .lst 68 r8 false), (200003, .lst 68 r8 false)]⟩
abbrev os16_0 : List (XE × Shape) := [(.ex 2, ⟨[(1, .one (.d (.list r7))), (5, .one (.own 200000)), (12, .one (.own 200001)), (13, .one (.d (.int .i64))), (14, .one (.d (.int .i64)))], [(200000, .lst 68 r8 false), (200001, .lst 68 r8 false)]⟩)]
def cx16_0 : Cx := ⟨Tryz.prog, [e39, e40, e41], [46, 47], 52, [], []⟩
def B16_0 : List R7 × Int × Int × Int × Int × List R8 × Int × Int × Int × ByteArray × Bool × Bool × Int × Int × Int × ByteArray × Bool × Bool × List R8 × List R8 × Unit → Option ((List R7 × Int × Int × Int × Int × List R8 × Int × Int × Int × ByteArray × Bool × Bool × Int × Int × Int × ByteArray × Bool × Bool × List R8 × List R8 × Unit) ⊕ List R7 × Int × Int × List R8 × List R8 × Unit) := round cx16_0 (sub [1, 1, 0, 1, 0, 0, 1, 1, 0, 0, 1, 1, 0, 0] b16) sh16_0 os16_0
def ce16_0 : CE := ⟨sh16_0, os16_0, loop B16_0⟩
theorem okc16_0 : CEOK Tryz.prog 52 (.at (.loop (sub [1, 1, 0, 1, 0, 0, 1, 1, 0, 0, 1, 1, 0, 0] b16))) ce16_0 := round_ok (cx := cx16_0) (fun R => step_sound (all_fe (P := Tryz.prog) (l := [e39, e40, e41]) ⟨ok39, ok40, ok41, trivial⟩) R) (needs_of (l := []) (by kernel_rfl) trivial) sh16_0 os16_0
abbrev sh16_1 : Shape := ⟨[(1, .one (.d (.list r7))), (5, .one (.own 200000)), (12, .one (.own 200001)), (13, .one (.d (.int .i64))), (14, .one (.d (.int .i64)))], [(200000, .lst 68 r8 false), (200001, .lst 68 r8 false)]⟩
abbrev os16_1 : List (XE × Shape) := [(.ex 0, ⟨[(5, .one (.own 200000))], [(200000, .lst 68 r8 false)]⟩)]
def cx16_1 : Cx := ⟨Tryz.prog, [e39, e40, e41], [46, 47], 52, [(12, ce16_0)], []⟩
def B16_1 : List R7 × Int × Int × List R8 × List R8 × Unit → Option ((List R7 × Int × Int × List R8 × List R8 × Unit) ⊕ List R8 × Unit) := round cx16_1 (sub [1, 1, 0, 1, 0, 0] b16) sh16_1 os16_1
def ce16_1 : CE := ⟨sh16_1, os16_1, loop B16_1⟩
theorem okc16_1 : CEOK Tryz.prog 52 (.at (.loop (sub [1, 1, 0, 1, 0, 0] b16))) ce16_1 := round_ok (cx := cx16_1) (fun R => step_sound (all_fe (P := Tryz.prog) (l := [e39, e40, e41]) ⟨ok39, ok40, ok41, trivial⟩) R) (needs_of (l := [((.at (.loop (sub [1, 1, 0, 1, 0, 0, 1, 1, 0, 0, 1, 1, 0, 0] b16))), ce16_0)]) (by kernel_rfl) ⟨okc16_0, trivial⟩) sh16_1 os16_1
def cx16 : Cx := ⟨Tryz.prog, [e39, e40, e41], [46, 47], 52, [(12, ce16_0), (6, ce16_1)], []⟩
def F16 : List R7 × List R7 × Unit → Option (List R7 × Unit) := func cx16 Tryz.f16 b16 sh16 out16
def e16 : FE := ⟨16, sh16, out16, F16⟩
theorem ok16 : FEOK Tryz.prog e16 := func_ok (cx := cx16) (fn := Tryz.f16) (c := b16) (all_fe (P := Tryz.prog) (l := [e39, e40, e41]) ⟨ok39, ok40, ok41, trivial⟩) (by kernel_rfl) (by kernel_rfl) (by kernel_rfl) (by kernel_rfl) (by kernel_rfl) (needs_of (l := [((.at (.loop (sub [1, 1, 0, 1, 0, 0] b16))), ce16_1)]) (by kernel_rfl) ⟨okc16_1, trivial⟩)
abbrev sh17 : Shape := ⟨[(0, .one (.d (.list (.list r7))))], []⟩
abbrev out17 : Shape := ⟨[(0, .one (.d (.list r7)))], []⟩
def b17 : Code := Tryz.f17.body.getD .skip
def cx17 : Cx := ⟨Tryz.prog, [e39v1, e41, e42], [], 7, [], []⟩
def F17 : List (List R7) × Unit → Option (List R7 × Unit) := func cx17 Tryz.f17 b17 sh17 out17
def e17 : FE := ⟨17, sh17, out17, F17⟩
theorem ok17 : FEOK Tryz.prog e17 := func_ok (cx := cx17) (fn := Tryz.f17) (c := b17) (all_fe (P := Tryz.prog) (l := [e39v1, e41, e42]) ⟨ok39v1, ok41, ok42, trivial⟩) (by kernel_rfl) (by kernel_rfl) (by kernel_rfl) (by kernel_rfl) (by kernel_rfl) (needs_of (l := []) (by kernel_rfl) trivial)
abbrev sh18 : Shape := ⟨[(0, .one (.d (.list r7)))], []⟩
abbrev out18 : Shape := ⟨[(0, .one (.d (.list r7)))], []⟩
def b18 : Code := Tryz.f18.body.getD .skip
abbrev sh18_0 : Shape := ⟨[(3, .one (.ptr 200000 0)), (4, .one (.own 200001)), (10, .one (.own 200002)), (11, .one (.d (.int .i64))), (12, .one (.d (.int .i64)))], [(200000, .box 66 [.d (.int .i64), .d (.int .i64), .d (.int .i64), .d .str, .d .bool, .d .bool]), (200001, .lst 68 r8 false), (200002, .lst 68 r8 false)]⟩
abbrev os18_0 : List (XE × Shape) := [(.ex 0, ⟨[(3, .one (.ptr 200000 0)), (4, .one (.own 200001))], [(200000, .box 66 [.d (.int .i64), .d (.int .i64), .d (.int .i64), .d .str, .d .bool, .d .bool]), (200001, .lst 68 r8 false)]⟩)]
def cx18_0 : Cx := ⟨Tryz.prog, [e39, e41, e43], [0, 1, 2, 3, 4, 5, 6, 7, 8, 9, 10, 11, 12, 13, 14, 15, 16, 17, 18, 19, 20, 21, 22, 23, 24, 25, 26, 27, 28, 29, 30, 31, 32], 33, [], []⟩
def B18_0 : Int × Int × Int × Int × Int × ByteArray × Bool × Bool × List R8 × List R8 × Unit → Option ((Int × Int × Int × Int × Int × ByteArray × Bool × Bool × List R8 × List R8 × Unit) ⊕ Int × Int × Int × ByteArray × Bool × Bool × List R8 × Unit) := round cx18_0 (sub [1, 1, 1, 0, 1, 0, 0] b18) sh18_0 os18_0
def ce18_0 : CE := ⟨sh18_0, os18_0, loop B18_0⟩
theorem okc18_0 : CEOK Tryz.prog 33 (.at (.loop (sub [1, 1, 1, 0, 1, 0, 0] b18))) ce18_0 := round_ok (cx := cx18_0) (fun R => step_sound (all_fe (P := Tryz.prog) (l := [e39, e41, e43]) ⟨ok39, ok41, ok43, trivial⟩) R) (needs_of (l := []) (by kernel_rfl) trivial) sh18_0 os18_0
def cx18 : Cx := ⟨Tryz.prog, [e39, e41, e43], [0, 1, 2, 3, 4, 5, 6, 7, 8, 9, 10, 11, 12, 13, 14, 15, 16, 17, 18, 19, 20, 21, 22, 23, 24, 25, 26, 27, 28, 29, 30, 31, 32], 33, [(8, ce18_0)], []⟩
def F18 : List R7 × Unit → Option (List R7 × Unit) := func cx18 Tryz.f18 b18 sh18 out18
def e18 : FE := ⟨18, sh18, out18, F18⟩
theorem ok18 : FEOK Tryz.prog e18 := func_ok (cx := cx18) (fn := Tryz.f18) (c := b18) (all_fe (P := Tryz.prog) (l := [e39, e41, e43]) ⟨ok39, ok41, ok43, trivial⟩) (by kernel_rfl) (by kernel_rfl) (by kernel_rfl) (by kernel_rfl) (by kernel_rfl) (needs_of (l := [((.at (.loop (sub [1, 1, 1, 0, 1, 0, 0] b18))), ce18_0)]) (by kernel_rfl) ⟨okc18_0, trivial⟩)
abbrev sh81 : Shape := ⟨[(0, .row [.d (.int .i64), .d (.int .i64), .d (.int .i64), .d .str, .d .bool, .d .bool]), (1, .row [.d (.int .i64), .d (.int .i64), .d (.int .i64), .d .str, .d .bool, .d .bool])], []⟩
abbrev out81 : Shape := ⟨[(0, .one (.d (.list r7)))], []⟩
def b81 : Code := Tryz.f81.body.getD .skip
def cx81 : Cx := ⟨Tryz.prog, [e41], [0, 1, 2, 3, 4, 5, 6, 7, 8, 9], 10, [], []⟩
def F81 : Int × Int × Int × ByteArray × Bool × Bool × Int × Int × Int × ByteArray × Bool × Bool × Unit → Option (List R7 × Unit) := func cx81 Tryz.f81 b81 sh81 out81
def e81 : FE := ⟨81, sh81, out81, F81⟩
theorem ok81 : FEOK Tryz.prog e81 := func_ok (cx := cx81) (fn := Tryz.f81) (c := b81) (all_fe (P := Tryz.prog) (l := [e41]) ⟨ok41, trivial⟩) (by kernel_rfl) (by kernel_rfl) (by kernel_rfl) (by kernel_rfl) (by kernel_rfl) (needs_of (l := []) (by kernel_rfl) trivial)
abbrev sh98 : Shape := ⟨[(0, .one (.d .str))], []⟩
abbrev out98 : Shape := ⟨[(0, .one (.d (.list r7))), (1, .one (.d .bool))], []⟩
def b98 : Code := Tryz.f98.body.getD .skip
abbrev sh98_0 : Shape := ⟨[(7, .one (.d (.list .str))), (8, .one (.ptr 200000 0)), (37, .one (.d (.list .str))), (38, .one (.d (.int .i64))), (39, .one (.d (.int .i64)))], [(200000, .box 159 [.d (.int .i64), .d (.int .i64)])]⟩
abbrev os98_0 : List (XE × Shape) := [(.ret, ⟨[(2, .one (.nilS)), (3, .one (.d .bool))], []⟩), (.ex 0, ⟨[(7, .one (.d (.list .str))), (8, .one (.ptr 200000 0))], [(200000, .box 159 [.d (.int .i64), .d (.int .i64)])]⟩)]
def cx98_0 : Cx := ⟨Tryz.prog, [e81, e100, e102, e103, e131, e132], [], 72, [], []⟩
def B98_0 : List ByteArray × List ByteArray × Int × Int × Int × Int × Unit → Option ((List ByteArray × List ByteArray × Int × Int × Int × Int × Unit) ⊕ (Bool × Unit) ⊕ (List ByteArray × Int × Int × Unit)) := round cx98_0 (sub [1, 1, 1, 1, 1, 1, 0, 1, 0, 0] b98) sh98_0 os98_0
def ce98_0 : CE := ⟨sh98_0, os98_0, loop B98_0⟩
theorem okc98_0 : CEOK Tryz.prog 72 (.at (.loop (sub [1, 1, 1, 1, 1, 1, 0, 1, 0, 0] b98))) ce98_0 := round_ok (cx := cx98_0) (fun R => step_sound (all_fe (P := Tryz.prog) (l := [e81, e100, e102, e103, e131, e132]) ⟨ok81, ok100, ok102, ok103, ok131, ok132, trivial⟩) R) (needs_of (l := []) (by kernel_rfl) trivial) sh98_0 os98_0
def cx98 : Cx := ⟨Tryz.prog, [e81, e100, e102, e103, e131, e132], [], 72, [(16, ce98_0)], []⟩
def F98 : ByteArray × Unit → Option (List R7 × Bool × Unit) := func cx98 Tryz.f98 b98 sh98 out98
def e98 : FE := ⟨98, sh98, out98, F98⟩
theorem ok98 : FEOK Tryz.prog e98 := func_ok (cx := cx98) (fn := Tryz.f98) (c := b98) (all_fe (P := Tryz.prog) (l := [e81, e100, e102, e103, e131, e132]) ⟨ok81, ok100, ok102, ok103, ok131, ok132, trivial⟩) (by kernel_rfl) (by kernel_rfl) (by kernel_rfl) (by kernel_rfl) (by kernel_rfl) (needs_of (l := [((.at (.loop (sub [1, 1, 1, 1, 1, 1, 0, 1, 0, 0] b98))), ce98_0)]) (by kernel_rfl) ⟨okc98_0, trivial⟩)
abbrev sh99 : Shape := ⟨[(0, .one (.d .str))], []⟩
abbrev out99 : Shape := ⟨[(0, .one (.d (.list r7))), (1, .one (.d .bool))], []⟩
def b99 : Code := Tryz.f99.body.getD .skip
def cx99 : Cx := ⟨Tryz.prog, [e18, e80, e81, e132, e133, e134, e135, e136], [], 73, [], []⟩
def F99 : ByteArray × Unit → Option (List R7 × Bool × Unit) := func cx99 Tryz.f99 b99 sh99 out99
def e99 : FE := ⟨99, sh99, out99, F99⟩
theorem ok99 : FEOK Tryz.prog e99 := func_ok (cx := cx99) (fn := Tryz.f99) (c := b99) (all_fe (P := Tryz.prog) (l := [e18, e80, e81, e132, e133, e134, e135, e136]) ⟨ok18, ok80, ok81, ok132, ok133, ok134, ok135, ok136, trivial⟩) (by kernel_rfl) (by kernel_rfl) (by kernel_rfl) (by kernel_rfl) (by kernel_rfl) (needs_of (l := []) (by kernel_rfl) trivial)
abbrev sh79 : Shape := ⟨[(0, .one (.d .str))], []⟩
abbrev out79 : Shape := ⟨[(0, .one (.d (.list r7))), (1, .one (.d .bool))], []⟩
def b79 : Code := Tryz.f79.body.getD .skip
def cx79 : Cx := ⟨Tryz.prog, [e77, e98, e99], [], 20, [], []⟩
def F79 : ByteArray × Unit → Option (List R7 × Bool × Unit) := func cx79 Tryz.f79 b79 sh79 out79
def e79 : FE := ⟨79, sh79, out79, F79⟩
theorem ok79 : FEOK Tryz.prog e79 := func_ok (cx := cx79) (fn := Tryz.f79) (c := b79) (all_fe (P := Tryz.prog) (l := [e77, e98, e99]) ⟨ok77, ok98, ok99, trivial⟩) (by kernel_rfl) (by kernel_rfl) (by kernel_rfl) (by kernel_rfl) (by kernel_rfl) (needs_of (l := []) (by kernel_rfl) trivial)
abbrev sh51 : Shape := ⟨[(0, .one (.ptr 100000 0))], [(100000, .box 80 [.ptr 100001 0, .d .str, .d .str, .d (.int .i64)]), (100001, .box 107 [.d .str, .d (.int .i64)])]⟩
abbrev out51 : Shape := ⟨[(0, .one (.d (.list r7))), (1, .one (.d .bool))], [(100000, .box 80 [.ptr 100001 0, .d .str, .d .str, .d (.int .i64)]), (100001, .box 107 [.d .str, .d (.int .i64)])]⟩
def b51 : Code := Tryz.f51.body.getD .skip
abbrev sh51_0 : Shape := ⟨[(0, .one (.ptr 100000 0)), (4, .one (.d (.list r7))), (5, .one (.d .bool)), (6, .one (.d (.int .i64)))], [(100000, .box 80 [.ptr 100001 0, .d .str, .d .str, .d (.int .i64)]), (100001, .box 107 [.d .str, .d (.int .i64)])]⟩
abbrev os51_0 : List (XE × Shape) := [(.ret, ⟨[(2, .one (.d (.list r7))), (3, .one (.d .bool))], [(100000, .box 80 [.ptr 100001 0, .d .str, .d .str, .d (.int .i64)]), (100001, .box 107 [.d .str, .d (.int .i64)])]⟩), (.ex 0, ⟨[], [(100000, .box 80 [.ptr 100001 0, .d .str, .d .str, .d (.int .i64)]), (100001, .box 107 [.d .str, .d (.int .i64)])]⟩)]
def cx51_0 : Cx := ⟨Tryz.prog, [e16, e77, e78, e79, e80, e81], [], 76, [], []⟩
def B51_0 : List R7 × Bool × Int × ByteArray × ByteArray × Int × ByteArray × Int × Unit → Option ((List R7 × Bool × Int × ByteArray × ByteArray × Int × ByteArray × Int × Unit) ⊕ (List R7 × Bool × ByteArray × ByteArray × Int × ByteArray × Int × Unit) ⊕ (ByteArray × ByteArray × Int × ByteArray × Int × Unit)) := round cx51_0 (sub [1, 1, 1, 0, 1, 0, 0] b51) sh51_0 os51_0
def ce51_0 : CE := ⟨sh51_0, os51_0, loop B51_0⟩
theorem okc51_0 : CEOK Tryz.prog 76 (.at (.loop (sub [1, 1, 1, 0, 1, 0, 0] b51))) ce51_0 := round_ok (cx := cx51_0) (fun R => step_sound (all_fe (P := Tryz.prog) (l := [e16, e77, e78, e79, e80, e81]) ⟨ok16, ok77, ok78, ok79, ok80, ok81, trivial⟩) R) (needs_of (l := []) (by kernel_rfl) trivial) sh51_0 os51_0
def cx51 : Cx := ⟨Tryz.prog, [e16, e77, e78, e79, e80, e81], [], 76, [(8, ce51_0)], []⟩
def F51 : ByteArray × ByteArray × Int × ByteArray × Int × Unit → Option (List R7 × Bool × ByteArray × ByteArray × Int × ByteArray × Int × Unit) := func cx51 Tryz.f51 b51 sh51 out51
def e51 : FE := ⟨51, sh51, out51, F51⟩
theorem ok51 : FEOK Tryz.prog e51 := func_ok (cx := cx51) (fn := Tryz.f51) (c := b51) (all_fe (P := Tryz.prog) (l := [e16, e77, e78, e79, e80, e81]) ⟨ok16, ok77, ok78, ok79, ok80, ok81, trivial⟩) (by kernel_rfl) (by kernel_rfl) (by kernel_rfl) (by kernel_rfl) (by kernel_rfl) (needs_of (l := [((.at (.loop (sub [1, 1, 1, 0, 1, 0, 0] b51))), ce51_0)]) (by kernel_rfl) ⟨okc51_0, trivial⟩)
abbrev sh30 : Shape := ⟨[(0, .one (.d .str))], []⟩
abbrev out30 : Shape := ⟨[(0, .one (.d (.list r7))), (1, .one (.d (.int .i64))), (2, .one (.d (.int .i64)))], []⟩
def b30 : Code := Tryz.f30.body.getD .skip
abbrev sh30_0 : Shape := ⟨[(0, .one (.d .str)), (5, .one (.ptr 200000 0)), (6, .one (.d (.list r7)))], [(200000, .box 80 [.ptr 200001 0, .d .str, .d .str, .d (.int .i64)]), (200001, .box 107 [.d .str, .d (.int .i64)])]⟩
abbrev os30_0 : List (XE × Shape) := [(.ret, ⟨[(2, .one (.d (.list r7))), (3, .one (.d (.int .i64))), (4, .one (.d (.int .i64)))], []⟩)]
def cx30_0 : Cx := ⟨Tryz.prog, [e17, e50, e51, e52], [], 48, [], []⟩
def B30_0 : ByteArray × List R7 × ByteArray × ByteArray × Int × ByteArray × Int × Unit → Option ((ByteArray × List R7 × ByteArray × ByteArray × Int × ByteArray × Int × Unit) ⊕ List R7 × Int × Int × Unit) := round cx30_0 (sub [1, 1, 1, 0, 0] b30) sh30_0 os30_0
def ce30_0 : CE := ⟨sh30_0, os30_0, loop B30_0⟩
theorem okc30_0 : CEOK Tryz.prog 48 (.at (.loop (sub [1, 1, 1, 0, 0] b30))) ce30_0 := round_ok (cx := cx30_0) (fun R => step_sound (all_fe (P := Tryz.prog) (l := [e17, e50, e51, e52]) ⟨ok17, ok50, ok51, ok52, trivial⟩) R) (needs_of (l := []) (by kernel_rfl) trivial) sh30_0 os30_0
def cx30 : Cx := ⟨Tryz.prog, [e17, e50, e51, e52], [], 48, [(6, ce30_0)], []⟩
def F30 : ByteArray × Unit → Option (List R7 × Int × Int × Unit) := func cx30 Tryz.f30 b30 sh30 out30
def e30 : FE := ⟨30, sh30, out30, F30⟩
theorem ok30 : FEOK Tryz.prog e30 := func_ok (cx := cx30) (fn := Tryz.f30) (c := b30) (all_fe (P := Tryz.prog) (l := [e17, e50, e51, e52]) ⟨ok17, ok50, ok51, ok52, trivial⟩) (by kernel_rfl) (by kernel_rfl) (by kernel_rfl) (by kernel_rfl) (by kernel_rfl) (needs_of (l := [((.at (.loop (sub [1, 1, 1, 0, 0] b30))), ce30_0)]) (by kernel_rfl) ⟨okc30_0, trivial⟩)
abbrev sh14 : Shape := ⟨[], []⟩
abbrev out14 : Shape := ⟨[(0, .one (.d .bool))], []⟩
def b14 : Code := Tryz.f14.body.getD .skip
def cx14 : Cx := ⟨Tryz.prog, [e16, e17, e18, e24, e30, e34, e37], [], 66, [], []⟩
def F14 : Unit → Option (Bool × Unit) := func cx14 Tryz.f14 b14 sh14 out14
def e14 : FE := ⟨14, sh14, out14, F14⟩
theorem ok14 : FEOK Tryz.prog e14 := func_ok (cx := cx14) (fn := Tryz.f14) (c := b14) (all_fe (P := Tryz.prog) (l := [e16, e17, e18, e24, e30, e34, e37]) ⟨ok16, ok17, ok18, ok24, ok30, ok34, ok37, trivial⟩) (by kernel_rfl) (by kernel_rfl) (by kernel_rfl) (by kernel_rfl) (by kernel_rfl) (needs_of (l := []) (by kernel_rfl) trivial)
end
end Go.Vx.Z
namespace Go.Vx
theorem fe_const {P : Go.Program} {f : Go.FuncId} {sh out : Shape} {F : sh.D → Option out.D} {r0 : out.D} (h : FEOK P ⟨f, sh, out, F⟩) (hF : ∀ p, F p = some r0) : FEOK P ⟨f, sh, out, fun _ => some r0⟩ := fun p r hr => h p r ((hF p).trans hr)
namespace Z
open Go Go.Vx Go.Proofs
set_option maxRecDepth 1000000
set_option maxHeartbeats 4000000
theorem known_is : F14 () = some (true, ()) := by kernel_rfl
noncomputable def e14k : FE := ⟨14, sh14, out14, fun _ => some (true, ())⟩
theorem ok14k : FEOK Tryz.prog e14k := fe_const (P := Tryz.prog) (f := 14) (sh := sh14) (out := out14) (F := F14) (r0 := (true, ())) ok14 fun _ => known_is
end Z
end Go.Vx
namespace Go.Vx.Z
noncomputable section
open Go Go.Vx Go.Proofs
set_option linter.unusedVariables false
set_option maxRecDepth 1000000
set_option maxHeartbeats 4000000

abbrev sh3 : Shape := ⟨[(0, .one (.d (.list (.int .i64)))), (1, .one (.d (.list (.int .i64)))), (2, .one (.d (.list (.int .i64)))), (3, .one (.d (.int .i64))), (4, .one (.d (.int .i64)))], []⟩
abbrev out3 : Shape := ⟨[(0, .one (.d .bool))], []⟩
def b3 : Code := Tryz.f3.body.getD .skip
abbrev sh3_0 : Shape := ⟨[(11, .one (.d (.list r7))), (12, .one (.d (.list r7))), (13, .one (.d (.list r7))), (14, .one (.d (.list r7))), (15, .one (.d (.list r7))), (16, .one (.d (.list r7))), (17, .one (.d (.list r5))), (18, .one (.d (.int .i64)))], []⟩
abbrev os3_0 : List (XE × Shape) := [(.ret, ⟨[(10, .one (.d .bool))], []⟩), (.ex 0, ⟨[], []⟩)]
def cx3_0 : Cx := ⟨Tryz.prog, [e14k, e15, e16, e17, e18, e19, e20, e21, e22, e23, e24, e25, e26, e27], [], 159, [], []⟩
def B3_0 : List R7 × List R7 × List R7 × List R7 × List R7 × List R7 × List R5 × Int × Unit → Option ((List R7 × List R7 × List R7 × List R7 × List R7 × List R7 × List R5 × Int × Unit) ⊕ (Bool × Unit) ⊕ (Unit)) := round cx3_0 (sub [1, 1, 1, 1, 1, 1, 0, 1, 0, 0] b3) sh3_0 os3_0
def ce3_0 : CE := ⟨sh3_0, os3_0, loop B3_0⟩
def cx3 : Cx := ⟨Tryz.prog, [e14k, e15, e16, e17, e18, e19, e20, e21, e22, e23, e24, e25, e26, e27], [], 159, [(18, ce3_0)], []⟩
def F3 : List Int × List Int × List Int × Int × Int × Unit → Option (Bool × Unit) := func cx3 Tryz.f3 b3 sh3 out3
def e3 : FE := ⟨3, sh3, out3, F3⟩
abbrev sh4 : Shape := ⟨[(0, .one (.d (.list (.int .i64)))), (1, .one (.d (.list (.int .i64)))), (2, .one (.d (.list (.int .i64))))], []⟩
abbrev out4 : Shape := ⟨[(0, .one (.d .bool))], []⟩
def b4 : Code := Tryz.f4.body.getD .skip
def cx4 : Cx := ⟨Tryz.prog, [e14k, e15, e16, e17, e18, e19], [], 93, [], []⟩
def F4 : List Int × List Int × List Int × Unit → Option (Bool × Unit) := func cx4 Tryz.f4 b4 sh4 out4
def e4 : FE := ⟨4, sh4, out4, F4⟩
abbrev sh5 : Shape := ⟨[(0, .one (.d (.list (.int .i64)))), (1, .one (.d (.int .i64))), (2, .one (.d (.int .u8))), (3, .one (.d (.int .i64))), (4, .one (.d .str)), (5, .one (.d .str))], []⟩
abbrev out5 : Shape := ⟨[(0, .one (.d .bool))], []⟩
def b5 : Code := Tryz.f5.body.getD .skip
abbrev sh5_0 : Shape := ⟨[(16, .one (.own 200000)), (17, .one (.d (.int .i64)))], [(200000, .lst 9 .str true)]⟩
abbrev os5_0 : List (XE × Shape) := [(.ret, ⟨[(12, .one (.d .bool))], []⟩), (.ex 0, ⟨[], []⟩)]
def cx5_0 : Cx := ⟨Tryz.prog, [e14k, e19, e28, e29, e30, e31], [], 121, [], []⟩
def B5_0 : Int × List ByteArray × Unit → Option ((Int × List ByteArray × Unit) ⊕ (Bool × Unit) ⊕ (Unit)) := round cx5_0 (sub [1, 1, 1, 1, 1, 1, 1, 1, 0, 1, 0, 0] b5) sh5_0 os5_0
def ce5_0 : CE := ⟨sh5_0, os5_0, loop B5_0⟩
theorem okc5_0 : CEOK Tryz.prog 121 (.at (.loop (sub [1, 1, 1, 1, 1, 1, 1, 1, 0, 1, 0, 0] b5))) ce5_0 := round_ok (cx := cx5_0) (fun R => step_sound (all_fe (P := Tryz.prog) (l := [e14k, e19, e28, e29, e30, e31]) ⟨ok14k, ok19, ok28, ok29, ok30, ok31, trivial⟩) R) (needs_of (l := []) (by kernel_rfl) trivial) sh5_0 os5_0
def cx5 : Cx := ⟨Tryz.prog, [e14k, e19, e28, e29, e30, e31], [], 121, [(22, ce5_0)], []⟩
def F5 : List Int × Int × Int × Int × ByteArray × ByteArray × Unit → Option (Bool × Unit) := func cx5 Tryz.f5 b5 sh5 out5
def e5 : FE := ⟨5, sh5, out5, F5⟩
theorem ok5 : FEOK Tryz.prog e5 := func_ok (cx := cx5) (fn := Tryz.f5) (c := b5) (all_fe (P := Tryz.prog) (l := [e14k, e19, e28, e29, e30, e31]) ⟨ok14k, ok19, ok28, ok29, ok30, ok31, trivial⟩) (by kernel_rfl) (by kernel_rfl) (by kernel_rfl) (by kernel_rfl) (by kernel_rfl) (needs_of (l := [((.at (.loop (sub [1, 1, 1, 1, 1, 1, 1, 1, 0, 1, 0, 0] b5))), ce5_0)]) (by kernel_rfl) ⟨okc5_0, trivial⟩)
abbrev sh6 : Shape := ⟨[(0, .one (.d (.int .i64))), (1, .one (.d (.int .i64))), (2, .one (.d (.int .i64))), (3, .one (.d (.int .i64))), (4, .one (.d (.int .i64)))], []⟩
abbrev out6 : Shape := ⟨[(0, .one (.d .bool))], []⟩
def b6 : Code := Tryz.f6.body.getD .skip
def cx6 : Cx := ⟨Tryz.prog, [e14k, e24, e26, e29, e30, e32, e33], [], 180, [], []⟩
def F6 : Int × Int × Int × Int × Int × Unit → Option (Bool × Unit) := func cx6 Tryz.f6 b6 sh6 out6
def e6 : FE := ⟨6, sh6, out6, F6⟩
abbrev sh7 : Shape := ⟨[(0, .one (.d (.list (.int .i64)))), (1, .one (.d (.list (.int .i64))))], []⟩
abbrev out7 : Shape := ⟨[(0, .one (.d .bool))], []⟩
def b7 : Code := Tryz.f7.body.getD .skip
def cx7 : Cx := ⟨Tryz.prog, [e14k, e15, e19, e34, e35], [], 29, [], []⟩
def F7 : List Int × List Int × Unit → Option (Bool × Unit) := func cx7 Tryz.f7 b7 sh7 out7
def e7 : FE := ⟨7, sh7, out7, F7⟩
abbrev sh8 : Shape := ⟨[(0, .one (.d (.list (.int .i64)))), (1, .one (.d (.list (.int .i64))))], []⟩
abbrev out8 : Shape := ⟨[(0, .one (.d .bool))], []⟩
def b8 : Code := Tryz.f8.body.getD .skip
abbrev sh8_0 : Shape := ⟨[(7, .one (.own 200000)), (8, .one (.d (.int .i64))), (9, .one (.d (.int .i64)))], [(200000, .lst 24 (.list r7) true)]⟩
abbrev os8_0 : List (XE × Shape) := [(.ret, ⟨[(4, .one (.d .bool))], []⟩), (.ex 2, ⟨[(7, .one (.own 200000)), (8, .one (.d (.int .i64)))], [(200000, .lst 24 (.list r7) true)]⟩)]
def cx8_0 : Cx := ⟨Tryz.prog, [e14k, e15, e16, e17, e18, e19, e36], [], 80, [], []⟩
def B8_0 : Int × Int × List (List R7) × Unit → Option ((Int × Int × List (List R7) × Unit) ⊕ (Bool × Unit) ⊕ (Int × List (List R7) × Unit)) := round cx8_0 (sub [1, 1, 1, 1, 0, 1, 0, 0, 1, 0, 0, 1, 1, 0, 0] b8) sh8_0 os8_0
def ce8_0 : CE := ⟨sh8_0, os8_0, loop B8_0⟩
abbrev sh8_1 : Shape := ⟨[(7, .one (.own 200000)), (8, .one (.d (.int .i64)))], [(200000, .lst 24 (.list r7) true)]⟩
abbrev os8_1 : List (XE × Shape) := [(.ret, ⟨[(4, .one (.d .bool))], []⟩), (.ex 0, ⟨[], []⟩)]
def cx8_1 : Cx := ⟨Tryz.prog, [e14k, e15, e16, e17, e18, e19, e36], [], 80, [(22, ce8_0)], []⟩
def B8_1 : Int × List (List R7) × Unit → Option ((Int × List (List R7) × Unit) ⊕ (Bool × Unit) ⊕ (Unit)) := round cx8_1 (sub [1, 1, 1, 1, 0, 1, 0, 0] b8) sh8_1 os8_1
def ce8_1 : CE := ⟨sh8_1, os8_1, loop B8_1⟩
def cx8 : Cx := ⟨Tryz.prog, [e14k, e15, e16, e17, e18, e19, e36], [], 80, [(22, ce8_0), (12, ce8_1)], []⟩
def F8 : List Int × List Int × Unit → Option (Bool × Unit) := func cx8 Tryz.f8 b8 sh8 out8
def e8 : FE := ⟨8, sh8, out8, F8⟩
abbrev sh9 : Shape := ⟨[(0, .one (.d (.int .i64))), (1, .one (.d (.int .i64))), (2, .one (.d (.int .i64))), (3, .one (.d (.int .i64))), (4, .one (.d (.int .i64))), (5, .one (.d (.int .i64))), (6, .one (.d .bool)), (7, .one (.d .bool))], []⟩
abbrev out9 : Shape := ⟨[(0, .one (.d .bool))], []⟩
def b9 : Code := Tryz.f9.body.getD .skip
abbrev sh9_0 : Shape := ⟨[(6, .one (.d .bool)), (7, .one (.d .bool)), (17, .one (.own 200000)), (18, .one (.d (.int .i64))), (19, .one (.d (.int .i64)))], [(200000, .lst 34 r5 false)]⟩
abbrev os9_0 : List (XE × Shape) := [(.ex 2, ⟨[(6, .one (.d .bool)), (7, .one (.d .bool)), (17, .one (.own 200000)), (18, .one (.d (.int .i64)))], [(200000, .lst 34 r5 false)]⟩)]
def cx9_0 : Cx := ⟨Tryz.prog, [e14k, e16, e17, e24, e26, e32], [34], 160, [], []⟩
def B9_0 : Bool × Bool × Int × Int × List R5 × Unit → Option ((Bool × Bool × Int × Int × List R5 × Unit) ⊕ Bool × Bool × Int × List R5 × Unit) := round cx9_0 (sub [1, 1, 1, 0, 1, 0, 0, 1, 0, 0, 1, 0, 0] b9) sh9_0 os9_0
def ce9_0 : CE := ⟨sh9_0, os9_0, loop B9_0⟩
abbrev sh9_1 : Shape := ⟨[(6, .one (.d .bool)), (7, .one (.d .bool)), (17, .one (.own 200000)), (18, .one (.d (.int .i64)))], [(200000, .lst 34 r5 false)]⟩
abbrev os9_1 : List (XE × Shape) := [(.ex 0, ⟨[(6, .one (.d .bool)), (7, .one (.d .bool)), (17, .one (.own 200000))], [(200000, .lst 34 r5 false)]⟩)]
def cx9_1 : Cx := ⟨Tryz.prog, [e14k, e16, e17, e24, e26, e32], [34], 160, [(16, ce9_0)], []⟩
def B9_1 : Bool × Bool × Int × List R5 × Unit → Option ((Bool × Bool × Int × List R5 × Unit) ⊕ Bool × Bool × List R5 × Unit) := round cx9_1 (sub [1, 1, 1, 0, 1, 0, 0] b9) sh9_1 os9_1
def ce9_1 : CE := ⟨sh9_1, os9_1, loop B9_1⟩
def cx9 : Cx := ⟨Tryz.prog, [e14k, e16, e17, e24, e26, e32], [34], 160, [(16, ce9_0), (10, ce9_1)], []⟩
def F9 : Int × Int × Int × Int × Int × Int × Bool × Bool × Unit → Option (Bool × Unit) := func cx9 Tryz.f9 b9 sh9 out9
def e9 : FE := ⟨9, sh9, out9, F9⟩
end
end Go.Vx.Z
/-! Loops over lists; sorts. -/
namespace Go.Vx
open Go
set_option linter.unusedVariables false
theorem loop_first {P E α : Type} {B : P → Option (P ⊕ E)} (xs : List α) (st : Nat → P) (p : α → Bool) (hit : Nat → α → E) (miss : E)
  (hs : ∀ i (h : i < xs.length), B (st i) = some (bif p xs[i] then .inr (hit i xs[i]) else .inl (st (i + 1)))) (he : B (st xs.length) = some (.inr miss)) :
  ∃ e, loop B (st 0) = some e ∧ ((xs.find? p = none ∧ e = miss) ∨ ∃ i x, xs.find? p = some x ∧ e = hit i x) := by
 have key : ∀ (n i : Nat), xs.length - i = n → i ≤ xs.length → ∃ e, loop B (st i) = some e ∧ (((xs.drop i).find? p = none ∧ e = miss) ∨ ∃ j x, (xs.drop i).find? p = some x ∧ e = hit j x) := by
  intro n
  induction n with
  | zero =>
   intro i h1 h2
   have : i = xs.length := by omega
   subst this
   exact ⟨miss, loop_end he, .inl ⟨by simp, rfl⟩⟩
  | succ n ih =>
   intro i h1 h2
   have hlt : i < xs.length := by omega
   have hb := hs i hlt
   rw [List.drop_eq_getElem_cons hlt, List.find?_cons]
   cases hp : p xs[i] with
   | true =>
    rw [hp] at hb
    exact ⟨_, loop_end hb, .inr ⟨i, xs[i], rfl, rfl⟩⟩
   | false =>
    rw [hp] at hb
    obtain ⟨e, h3, h4⟩ := ih (i + 1) (by omega) hlt
    exact ⟨e, loop_step hb h3, h4⟩
 have := key xs.length 0 (by omega) (by omega)
 simpa using this
theorem loop_find {P E α : Type} {B : P → Option (P ⊕ E)} (xs : List α) (st : Nat → P) (p : α → Bool) (hit : α → E) (miss : E)
  (hs : ∀ i (h : i < xs.length), B (st i) = some (bif p xs[i] then .inr (hit xs[i]) else .inl (st (i + 1)))) (he : B (st xs.length) = some (.inr miss)) :
  loop B (st 0) = some ((xs.find? p).elim miss hit) := by
 obtain ⟨e, h1, h2⟩ := loop_first xs st p (fun _ => hit) miss hs he
 rw [h1]
 rcases h2 with ⟨h3, h4⟩ | ⟨i, x, h3, h4⟩ <;> rw [h3, h4] <;> rfl
theorem loop_fold {P E α β : Type} {B : P → Option (P ⊕ E)} (xs : List α) (st : Nat → β → P) (f : β → α → β) (en : β → E) (b0 : β) (I : Nat → β → Prop) (h0 : I 0 b0)
  (hs : ∀ i (h : i < xs.length) b, I i b → B (st i b) = some (.inl (st (i + 1) (f b xs[i]))) ∧ I (i + 1) (f b xs[i])) (he : ∀ b, I xs.length b → B (st xs.length b) = some (.inr (en b))) :
  loop B (st 0 b0) = some (en (xs.foldl f b0)) := by
 have key : ∀ (n i : Nat) b, xs.length - i = n → i ≤ xs.length → I i b → loop B (st i b) = some (en ((xs.drop i).foldl f b)) := by
  intro n
  induction n with
  | zero =>
   intro i b h1 h2 hI
   have : i = xs.length := by omega
   subst this
   rw [List.drop_length]
   exact loop_end (he b hI)
  | succ n ih =>
   intro i b h1 h2 hI
   have hlt : i < xs.length := by omega
   obtain ⟨hb, hI'⟩ := hs i hlt b hI
   rw [List.drop_eq_getElem_cons hlt, List.foldl_cons]
   exact loop_step hb (ih (i + 1) _ (by omega) hlt hI')
 have := key xs.length 0 b0 (by omega) (by omega) h0
 simpa using this
theorem lt_in {i n : Nat} (h : i < n) : decide ((i : Int) < Int.ofNat n) = true := by simp; omega
theorem lt_out (n : Nat) : decide ((n : Int) < Int.ofNat n) = false := by simp
theorem ge_zero (i : Nat) : decide (Int.ofNat 0 ≤ (i : Int)) = true := by simp
theorem at_in {α : Type} {xs : List α} {i : Nat} (h : i < xs.length) : xs[Int.toNat (i : Int)]? = some xs[i] := by simp [h]
theorem wrap_next {i n : Nat} (h : i < n) (hn : n ≤ 9223372036854775807) : IntKind.wrap IntKind.i64 ((i : Int) + Int.ofNat 1) = ((i + 1 : Nat) : Int) := wrap64s i (by omega)
theorem loop_upto {P E β : Type} {B : P → Option (P ⊕ E)} (n : Nat) (st : Nat → β → P) (en : β → E) (I : Nat → β → Prop)
  (hs : ∀ i, i < n → ∀ b, I i b → ∃ b', B (st i b) = some (.inl (st (i + 1) b')) ∧ I (i + 1) b') (he : ∀ b, I n b → B (st n b) = some (.inr (en b))) : ∀ k b, k ≤ n → I k b → ∃ b', loop B (st k b) = some (en b') ∧ I n b' := by
 have key : ∀ (d k : Nat) b, n - k = d → k ≤ n → I k b → ∃ b', loop B (st k b) = some (en b') ∧ I n b' := by
  intro d
  induction d with
  | zero =>
   intro k b h1 h2 hI
   have : k = n := by omega
   subst this
   exact ⟨b, loop_end (he b hI), hI⟩
  | succ d ih =>
   intro k b h1 h2 hI
   obtain ⟨b', h3, h4⟩ := hs k (by omega) b hI
   obtain ⟨b'', h5, h6⟩ := ih (k + 1) b' (by omega) (by omega) h4
   exact ⟨b'', loop_step h3 h5, h6⟩
 intro k b hk hI
 exact key (n - k) k b rfl hk hI
theorem foldl_snoc {α β : Type} (f : α → β) : ∀ (l : List α) (acc : List β), l.foldl (fun b y => b ++ [f y]) acc = acc ++ l.map f
 | [], acc => by simp
 | y :: l, acc => by rw [List.foldl_cons, foldl_snoc f l]; simp
theorem loop_map {P E α β : Type} {B : P → Option (P ⊕ E)} (xs : List α) (st : Nat → List β → P) (f : α → β) (en : List β → E)
  (hs : ∀ i (h : i < xs.length) b, b.length = i → B (st i b) = some (.inl (st (i + 1) (b ++ [f xs[i]])))) (he : ∀ b, b.length = xs.length → B (st xs.length b) = some (.inr (en b))) :
  loop B (st 0 []) = some (en (xs.map f)) := by
 have := loop_fold (B := B) xs st (fun b y => b ++ [f y]) en [] (fun i b => b.length = i) rfl (fun i h b hb => ⟨hs i h b hb, by simp [hb]⟩) he
 rw [this, foldl_snoc]
 rfl
theorem loop_at {P E α : Type} {B : P → Option (P ⊕ E)} (xs : List α) (st : Nat → P) (p : α → Bool) (hit : Nat → E) (miss : E)
  (hs : ∀ i (h : i < xs.length), B (st i) = some (bif p xs[i] then .inr (hit i) else .inl (st (i + 1)))) (he : B (st xs.length) = some (.inr miss)) :
  loop B (st 0) = some (if xs.findIdx p < xs.length then hit (xs.findIdx p) else miss) := by
 refine loop_row st (xs.findIdx p) (fun i hi => ?_) ?_
 ·have hl : i < xs.length := Nat.lt_of_lt_of_le hi List.findIdx_le_length
  rw [hs i hl]
  have := List.not_of_lt_findIdx hi
  rw [show p xs[i] = false by simpa using this]
  rfl
 ·by_cases h : xs.findIdx p < xs.length
  ·rw [if_pos h, hs _ h, List.findIdx_getElem (w := h)]
   rfl
  ·rw [if_neg h]
   have : xs.findIdx p = xs.length := Nat.le_antisymm List.findIdx_le_length (by omega)
   rw [this]
   exact he
theorem sortBy_perm {α : Type} {cf : α → α → Int} (h : Sort.SWO (Proofs.ltOf cf)) (l : List α) : (sortBy cf l).Perm l := by
 cases l with
 | nil => exact .refl _
 | cons x l =>
  unfold sortBy
  have hp := pdq_range (swo_at h fun i => (x :: l).getD i x) (x :: l).length
  refine (hp.map _).trans ?_
  have : (List.range (x :: l).length).map (fun i => (x :: l).getD i x) = x :: l := by
   apply List.ext_getElem
   ·simp
   ·intro i h1 h2
    simp only [List.getElem_map, List.getElem_range]
    rw [List.getD_eq_getElem?_getD, List.getElem?_eq_getElem h2]
    rfl
  rw [this]
theorem sortBy_sorted {α : Type} {cf : α → α → Int} (h : Sort.SWO (Proofs.ltOf cf)) (l : List α) : (sortBy cf l).Pairwise fun a b => ¬ cf b a < 0 := by
 cases l with
 | nil => exact .nil
 | cons x l =>
  have hO : Sort.SWO (Proofs.ltOf fun i j => cf ((x :: l).getD i x) ((x :: l).getD j x)) := swo_at h fun i => (x :: l).getD i x
  obtain ⟨_, h2⟩ := Sort.pdq_sorts _ hO (Array.range (x :: l).length) 0 (x :: l).length (Lib.bitLen (x :: l).length) true true (Nat.zero_le _) (by simp) (Or.inl rfl)
  unfold sortBy sortIdx
  rw [List.pairwise_map, List.pairwise_iff_getElem]
  intro i j hi hj hij hlt
  have hlen := (pdq_range hO (x :: l).length).length_eq
  simp only [sortIdx, List.length_range] at hlen
  have h3 := h2 i j (Nat.zero_le _) hij (by omega)
  rw [getElem!_pos _ j (by simpa using hj), getElem!_pos _ i (by simpa using hi)] at h3
  simp only [Array.getElem_toList] at hlt
  unfold Proofs.ltOf at h3
  simp only [decide_eq_false_iff_not] at h3
  exact h3 hlt
end Go.Vx
