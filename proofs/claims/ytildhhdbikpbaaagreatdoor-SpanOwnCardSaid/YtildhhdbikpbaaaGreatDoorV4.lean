import Derived.Test.YtildhhdbikpbaaaGreatDoorV3
import Derived.Lib.Bytealg
import Derived.Sort.Statements
import Derived.Test.YtildhhdbikpbaaaGreatDoorV2
import Derived.Shelf.SlSortCmp.WholeK
import Init.Data.List.Sort
set_option linter.unusedSimpArgs false
namespace Go.Vx.Z
open Go Go.Vx Go.Proofs
set_option linter.unusedVariables false
set_option maxRecDepth 1000000
set_option maxHeartbeats 4000000
theorem B39_0_eq (x0 : List R7) (x1 x2 : Int) (x3 : List R8) : B39_0 (x0, x1, x2, x3, ()) =
 bif decide (x2 < x1) then bif decide (Int.ofNat 0 ≤ x2) then Option.bind x0[Int.toNat x2]? fun y => bif y.2.2.2.2.2.2.2.2.2.2.1 then bif decide (List.length x3 + List.length [(y.1, y.2.1, y.2.2.1, y.2.2.2.1, y.2.2.2.2.2.2.2.2.1, false, Int.ofNat 0, Int.ofNat 0, Int.ofNat 0, (lit []), false, true, ())] ≤ 1466015503701) then some (Sum.inl (x0, x1, IntKind.wrap IntKind.i64 (x2 + Int.ofNat 1), x3 ++ [(y.1, y.2.1, y.2.2.1, y.2.2.2.1, y.2.2.2.2.2.2.2.2.1, false, Int.ofNat 0, Int.ofNat 0, Int.ofNat 0, (lit []), false, true, ())], ())) else none else bif decide (List.length x3 + List.length [(y.1, y.2.1, y.2.2.1, y.2.2.2.1, y.2.2.2.2.2.2.2.2.1, false, y.2.2.2.2.1, y.2.2.2.2.2.1, y.2.2.2.2.2.2.1, y.2.2.2.2.2.2.2.1, y.2.2.2.2.2.2.2.2.2.1, false, ())] ≤ 1466015503701) then some (Sum.inl (x0, x1, IntKind.wrap IntKind.i64 (x2 + Int.ofNat 1), x3 ++ [(y.1, y.2.1, y.2.2.1, y.2.2.2.1, y.2.2.2.2.2.2.2.2.1, false, y.2.2.2.2.1, y.2.2.2.2.2.1, y.2.2.2.2.2.2.1, y.2.2.2.2.2.2.2.1, y.2.2.2.2.2.2.2.2.2.1, false, ())], ())) else none else none else some (Sum.inr (x3, ())) := by kernel_rfl
theorem F39_eq (x0 : List R7) : F39 (x0, ()) = Option.bind (loop B39_0 (x0, Int.ofNat (List.length x0), Int.ofNat 0, [], ())) fun r => some (r.1, ()) := by kernel_rfl
theorem F65_eq (x0 : Bool) : F65 (x0, ()) = bif x0 then some (Int.ofNat 1, ()) else some (Int.ofNat 0, ()) := by kernel_rfl
theorem B66_0_eq (x0 : Int) (x1 : List Int) (x2 x3 : Int) : B66_0 (x0, x1, x2, x3, ()) = bif decide (x3 < x2) then bif decide (Int.ofNat 0 ≤ x3) then Option.bind x1[Int.toNat x3]? fun y => bif !y == x0 then some (Sum.inr (Sum.inl (y, ()))) else some (Sum.inl (x0, x1, x2, IntKind.wrap IntKind.i64 (x3 + Int.ofNat 1), ())) else none else some (Sum.inr (Sum.inr (x0, ()))) := by kernel_rfl
theorem F66_eq (x0 : List Int) : F66 (x0, ()) = Option.bind (loop B66_0 (Int.ofNat 0, x0, Int.ofNat (List.length x0), Int.ofNat 0, ())) fun r => Sum.elim (fun p => some (p.1, ())) (fun p => some (p.1, ())) r := by kernel_rfl
theorem F113_eq (x0 : Int) : F113 (x0, ()) = some (!x0 == x0, ()) := by kernel_rfl
theorem F92_eq (x0 x1 : Int) : F92 (x0, x1, ()) =
 Option.bind (F113 (x0, ())) fun r => Option.bind (F113 (x1, ())) fun r_1 => bif r.1 then bif r_1.1 then some (Int.ofNat 0, ()) else some (Int.negSucc 0, ()) else bif r_1.1 then some (Int.ofNat 1, ()) else bif decide (x0 < x1) then some (Int.negSucc 0, ()) else bif decide (x0 > x1) then some (Int.ofNat 1, ()) else some (Int.ofNat 0, ()) := by kernel_rfl
theorem F161_eq (x0 : ByteArray) (x1 : Int) : F161 (x0, x1, ()) = some (xIndexByte x0 x1, ()) := by kernel_rfl
theorem F162_eq (x0 x1 : ByteArray) : F162 (x0, x1, ()) =
 bif Int.ofNat (ByteArray.size x1) == Int.ofNat 0 then some (Int.ofNat 0, ()) else bif bl x1 == bl x0 then some (Int.ofNat 0, ()) else bif Int.ofNat (ByteArray.size x1) == Int.ofNat 1 then bif decide (Int.ofNat 0 < Int.ofNat (ByteArray.size x1)) then Option.bind (F161 (x0, bt x1 (Int.ofNat 0), ())) fun r => some (r.1, ()) else none else bif decide (Int.ofNat (ByteArray.size x1) ≥ Int.ofNat (ByteArray.size x0)) then some (Int.negSucc 0, ()) else none := by kernel_rfl
theorem F165_eq (x0 x1 : ByteArray) : F165 (x0, x1, ()) = Option.bind (F162 (x0, x1, ())) fun r => some (r.1, ()) := by kernel_rfl
theorem B176_0_eq (x0 : Int) (x1 : ByteArray) (x2 : Nat) : B176_0 (x0, x1, x2, ()) =
 bif (match (motive := (x : Nat) → Nat → Nat.below (motive := fun x => Nat → Bool) x → Bool) Nat.succ x2, ByteArray.size x1 with | Nat.zero, x => fun x => true | Nat.succ n, Nat.zero => fun x => false | Nat.succ n, Nat.succ m => fun x => x.1 m) (Nat.rec ⟨fun x => true, ()⟩ (fun n n_ih => ⟨fun x => (match (motive := (x : Nat) → Nat → Nat.below (motive := fun x => Nat → Bool) x → Bool) Nat.succ n, x with | Nat.zero, x => fun x => true | Nat.succ n, Nat.zero => fun x => false | Nat.succ n, Nat.succ m => fun x => x.1 m) n_ih, n_ih⟩) x2) then some (Sum.inl (IntKind.wrap IntKind.i64 (x0 + Int.ofNat 1), x1, x2 + (Utf8.decode x1 x2).2, ())) else some (Sum.inr (x0, ())) := by kernel_rfl
theorem F176_eq (x0 : ByteArray) : F176 (x0, ()) = Option.bind (loop B176_0 (Int.ofNat 0, x0, 0, ())) fun r => some (r.1, ()) := by kernel_rfl
theorem B164_0_eq (x0 x1 : ByteArray) (x2 : Int) : B164_0 (x0, x1, x2, ()) =
 Option.bind (F165 (x0, x1, ())) fun r => bif r.1 == Int.negSucc 0 then some (Sum.inr (x2, ())) else bif decide (Int.ofNat 0 ≤ IntKind.wrap IntKind.i64 (r.1 + Int.ofNat (ByteArray.size x1))) && (decide (IntKind.wrap IntKind.i64 (r.1 + Int.ofNat (ByteArray.size x1)) ≤ Int.ofNat (ByteArray.size x0)) && decide (Int.ofNat (ByteArray.size x0) ≤ Int.ofNat (ByteArray.size x0))) then some (Sum.inl (ByteArray.extract x0 (Int.toNat (IntKind.wrap IntKind.i64 (r.1 + Int.ofNat (ByteArray.size x1)))) (Int.toNat (Int.ofNat (ByteArray.size x0))), x1, IntKind.wrap IntKind.i64 (x2 + Int.ofNat 1), ())) else none := by kernel_rfl
theorem F164_eq (x0 x1 : ByteArray) : F164 (x0, x1, ()) =
 bif Int.ofNat (ByteArray.size x1) == Int.ofNat 0 then Option.bind (F176 (x0, ())) fun r => some (IntKind.wrap IntKind.i64 (r.1 + Int.ofNat 1), ()) else bif Int.ofNat (ByteArray.size x1) == Int.ofNat 1 then bif decide (Int.ofNat 0 < Int.ofNat (ByteArray.size x1)) then some (xCount x0 (bt x1 (Int.ofNat 0)), ()) else none else Option.bind (loop B164_0 (x0, x1, Int.ofNat 0, ())) fun r => some (r.1, ()) := by kernel_rfl
theorem B139_0_eq (x0 x1 : ByteArray) (x2 x3 x4 : Int) (x5 : List ByteArray) : B139_0 (x0, x1, x2, x3, x4, x5, ()) =
 bif decide (x4 < x3) then Option.bind (F165 (x0, x1, ())) fun r => bif decide (r.1 < Int.ofNat 0) then some (Sum.inr (x0, x4, x5, ())) else bif decide (Int.ofNat 0 ≤ IntKind.wrap IntKind.i64 (r.1 + x2)) && decide (IntKind.wrap IntKind.i64 (r.1 + x2) ≤ Int.ofNat (ByteArray.size x0)) then bif decide (Int.ofNat 0 ≤ x4) && decide (x4 < Int.ofNat (List.length x5)) then Option.bind x5[Int.toNat x4]? fun y => bif decide (Int.ofNat 0 ≤ IntKind.wrap IntKind.i64 (r.1 + Int.ofNat (ByteArray.size x1))) && (decide (IntKind.wrap IntKind.i64 (r.1 + Int.ofNat (ByteArray.size x1)) ≤ Int.ofNat (ByteArray.size x0)) && decide (Int.ofNat (ByteArray.size x0) ≤ Int.ofNat (ByteArray.size x0))) then some (Sum.inl (ByteArray.extract x0 (Int.toNat (IntKind.wrap IntKind.i64 (r.1 + Int.ofNat (ByteArray.size x1)))) (Int.toNat (Int.ofNat (ByteArray.size x0))), x1, x2, x3, IntKind.wrap IntKind.i64 (x4 + Int.ofNat 1), List.set x5 (Int.toNat x4) (ByteArray.extract x0 0 (Int.toNat (IntKind.wrap IntKind.i64 (r.1 + x2)))), ())) else none else none else none else some (Sum.inr (x0, x4, x5, ())) := by kernel_rfl
theorem F139_eq (x0 x1 : ByteArray) (x2 x3 : Int) : F139 (x0, x1, x2, x3, ()) =
 bif x3 == Int.ofNat 0 then some ([], ()) else bif bl x1 == [] then none else bif decide (x3 < Int.ofNat 0) then Option.bind (F164 (x0, x1, ())) fun r => bif decide (Int.ofNat 0 ≤ bif decide (IntKind.wrap IntKind.i64 (Int.ofNat (ByteArray.size x0) + Int.ofNat 1) < IntKind.wrap IntKind.i64 (r.1 + Int.ofNat 1)) then IntKind.wrap IntKind.i64 (Int.ofNat (ByteArray.size x0) + Int.ofNat 1) else IntKind.wrap IntKind.i64 (r.1 + Int.ofNat 1)) && (decide ((bif decide (IntKind.wrap IntKind.i64 (Int.ofNat (ByteArray.size x0) + Int.ofNat 1) < IntKind.wrap IntKind.i64 (r.1 + Int.ofNat 1)) then IntKind.wrap IntKind.i64 (Int.ofNat (ByteArray.size x0) + Int.ofNat 1) else IntKind.wrap IntKind.i64 (r.1 + Int.ofNat 1)) ≤ bif decide (IntKind.wrap IntKind.i64 (Int.ofNat (ByteArray.size x0) + Int.ofNat 1) < IntKind.wrap IntKind.i64 (r.1 + Int.ofNat 1)) then IntKind.wrap IntKind.i64 (Int.ofNat (ByteArray.size x0) + Int.ofNat 1) else IntKind.wrap IntKind.i64 (r.1 + Int.ofNat 1)) && decide ((Int.ofNat 16 * bif decide (IntKind.wrap IntKind.i64 (Int.ofNat (ByteArray.size x0) + Int.ofNat 1) < IntKind.wrap IntKind.i64 (r.1 + Int.ofNat 1)) then IntKind.wrap IntKind.i64 (Int.ofNat (ByteArray.size x0) + Int.ofNat 1) else IntKind.wrap IntKind.i64 (r.1 + Int.ofNat 1)) ≤ Int.ofNat 281474976710656) && decide ((bif decide (IntKind.wrap IntKind.i64 (Int.ofNat (ByteArray.size x0) + Int.ofNat 1) < IntKind.wrap IntKind.i64 (r.1 + Int.ofNat 1)) then IntKind.wrap IntKind.i64 (Int.ofNat (ByteArray.size x0) + Int.ofNat 1) else IntKind.wrap IntKind.i64 (r.1 + Int.ofNat 1)) ≤ Int.ofNat 9223372036854775807)) then Option.bind (loop B139_0 (x0, x1, x2, IntKind.wrap IntKind.i64 ((bif decide (IntKind.wrap IntKind.i64 (Int.ofNat (ByteArray.size x0) + Int.ofNat 1) < IntKind.wrap IntKind.i64 (r.1 + Int.ofNat 1)) then IntKind.wrap IntKind.i64 (Int.ofNat (ByteArray.size x0) + Int.ofNat 1) else IntKind.wrap IntKind.i64 (r.1 + Int.ofNat 1)) - Int.ofNat 1), Int.ofNat 0, List.replicate (Int.toNat (bif decide (IntKind.wrap IntKind.i64 (Int.ofNat (ByteArray.size x0) + Int.ofNat 1) < IntKind.wrap IntKind.i64 (r.1 + Int.ofNat 1)) then IntKind.wrap IntKind.i64 (Int.ofNat (ByteArray.size x0) + Int.ofNat 1) else IntKind.wrap IntKind.i64 (r.1 + Int.ofNat 1))) (lit []), ())) fun r => bif decide (Int.ofNat 0 ≤ r.2.1) && decide (r.2.1 < Int.ofNat (List.length r.2.2.1)) then Option.bind r.2.2.1[Int.toNat r.2.1]? fun y => bif decide (Int.ofNat 0 ≤ IntKind.wrap IntKind.i64 (r.2.1 + Int.ofNat 1)) && (decide (IntKind.wrap IntKind.i64 (r.2.1 + Int.ofNat 1) ≤ Int.ofNat (List.length (List.set r.2.2.1 (Int.toNat r.2.1) r.1))) && decide (Int.ofNat (List.length (List.set r.2.2.1 (Int.toNat r.2.1) r.1)) ≤ Int.ofNat (List.length (List.set r.2.2.1 (Int.toNat r.2.1) r.1)))) then some (List.drop 0 (List.take (0 + Int.toNat (IntKind.wrap IntKind.i64 (r.2.1 + Int.ofNat 1))) (List.set r.2.2.1 (Int.toNat r.2.1) r.1)), ()) else none else none else none else bif decide (Int.ofNat 0 ≤ bif decide (IntKind.wrap IntKind.i64 (Int.ofNat (ByteArray.size x0) + Int.ofNat 1) < x3) then IntKind.wrap IntKind.i64 (Int.ofNat (ByteArray.size x0) + Int.ofNat 1) else x3) && (decide ((bif decide (IntKind.wrap IntKind.i64 (Int.ofNat (ByteArray.size x0) + Int.ofNat 1) < x3) then IntKind.wrap IntKind.i64 (Int.ofNat (ByteArray.size x0) + Int.ofNat 1) else x3) ≤ bif decide (IntKind.wrap IntKind.i64 (Int.ofNat (ByteArray.size x0) + Int.ofNat 1) < x3) then IntKind.wrap IntKind.i64 (Int.ofNat (ByteArray.size x0) + Int.ofNat 1) else x3) && decide ((Int.ofNat 16 * bif decide (IntKind.wrap IntKind.i64 (Int.ofNat (ByteArray.size x0) + Int.ofNat 1) < x3) then IntKind.wrap IntKind.i64 (Int.ofNat (ByteArray.size x0) + Int.ofNat 1) else x3) ≤ Int.ofNat 281474976710656) && decide ((bif decide (IntKind.wrap IntKind.i64 (Int.ofNat (ByteArray.size x0) + Int.ofNat 1) < x3) then IntKind.wrap IntKind.i64 (Int.ofNat (ByteArray.size x0) + Int.ofNat 1) else x3) ≤ Int.ofNat 9223372036854775807)) then Option.bind (loop B139_0 (x0, x1, x2, IntKind.wrap IntKind.i64 ((bif decide (IntKind.wrap IntKind.i64 (Int.ofNat (ByteArray.size x0) + Int.ofNat 1) < x3) then IntKind.wrap IntKind.i64 (Int.ofNat (ByteArray.size x0) + Int.ofNat 1) else x3) - Int.ofNat 1), Int.ofNat 0, List.replicate (Int.toNat (bif decide (IntKind.wrap IntKind.i64 (Int.ofNat (ByteArray.size x0) + Int.ofNat 1) < x3) then IntKind.wrap IntKind.i64 (Int.ofNat (ByteArray.size x0) + Int.ofNat 1) else x3)) (lit []), ())) fun r => bif decide (Int.ofNat 0 ≤ r.2.1) && decide (r.2.1 < Int.ofNat (List.length r.2.2.1)) then Option.bind r.2.2.1[Int.toNat r.2.1]? fun y => bif decide (Int.ofNat 0 ≤ IntKind.wrap IntKind.i64 (r.2.1 + Int.ofNat 1)) && (decide (IntKind.wrap IntKind.i64 (r.2.1 + Int.ofNat 1) ≤ Int.ofNat (List.length (List.set r.2.2.1 (Int.toNat r.2.1) r.1))) && decide (Int.ofNat (List.length (List.set r.2.2.1 (Int.toNat r.2.1) r.1)) ≤ Int.ofNat (List.length (List.set r.2.2.1 (Int.toNat r.2.1) r.1)))) then some (List.drop 0 (List.take (0 + Int.toNat (IntKind.wrap IntKind.i64 (r.2.1 + Int.ofNat 1))) (List.set r.2.2.1 (Int.toNat r.2.1) r.1)), ()) else none else none else none := by kernel_rfl
theorem F102_eq (x0 x1 : ByteArray) : F102 (x0, x1, ()) = Option.bind (F139 (x0, x1, Int.ofNat 0, Int.negSucc 0, ())) fun r => some (r.1, ()) := by kernel_rfl
theorem B149_0_eq (x0 : ByteArray) (x1 x2 : Int) : B149_0 (x0, x1, x2, ()) =
 bif decide (x2 < x1) then bif decide (Int.ofNat 0 ≤ x2) && decide (x2 < Int.ofNat (ByteArray.size x0)) then bif decide (bt x0 x2 < Int.ofNat 48) then some (Sum.inr (Sum.inl (false, ()))) else bif decide (Int.ofNat 0 ≤ x2) && decide (x2 < Int.ofNat (ByteArray.size x0)) then bif decide (bt x0 x2 > Int.ofNat 57) then some (Sum.inr (Sum.inl (false, ()))) else some (Sum.inl (x0, x1, IntKind.wrap IntKind.i64 (x2 + Int.ofNat 1), ())) else none else none else some (Sum.inr (Sum.inr (x0, ()))) := by kernel_rfl
theorem F149_eq (x0 : ByteArray) : F149 (x0, ()) = Option.bind (loop B149_0 (x0, Int.ofNat (ByteArray.size x0), Int.ofNat 0, ())) fun r => Sum.elim (fun p => some (p.1, ())) (fun p => some (!bl p.1 == [], ())) r := by kernel_rfl
theorem F171_eq (x0 : ByteArray) : F171 (x0, ()) = some (!bl x0 == bl x0, ()) := by kernel_rfl
theorem F150_eq (x0 x1 : ByteArray) : F150 (x0, x1, ()) =
 Option.bind (F171 (x0, ())) fun r => Option.bind (F171 (x1, ())) fun r_1 => bif r.1 then bif r_1.1 then some (Int.ofNat 0, ()) else some (Int.negSucc 0, ()) else bif r_1.1 then some (Int.ofNat 1, ()) else bif Op.bytesLess (bl x0) (bl x1) then some (Int.negSucc 0, ()) else bif !(Op.bytesLess (bl x0) (bl x1) || bl x0 == bl x1) then some (Int.ofNat 1, ()) else some (Int.ofNat 0, ()) := by kernel_rfl
theorem F115_eq (x0 x1 : ByteArray) : F115 (x0, x1, ()) =
 Option.bind (F149 (x0, ())) fun r => Option.bind (F149 (x1, ())) fun r_1 => bif r.1 then bif r_1.1 then Option.bind (F92 (Int.ofNat (ByteArray.size x0), Int.ofNat (ByteArray.size x1), ())) fun r => Option.bind (F150 (x0, x1, ())) fun r_2 => Option.bind (F66 ([r.1, r_2.1], ())) fun r => some (r.1, ()) else bif r.1 then some (Int.negSucc 0, ()) else bif r_1.1 then some (Int.ofNat 1, ()) else Option.bind (F150 (x0, x1, ())) fun r => some (r.1, ()) else bif r.1 then some (Int.negSucc 0, ()) else bif r_1.1 then some (Int.ofNat 1, ()) else Option.bind (F150 (x0, x1, ())) fun r => some (r.1, ()) := by kernel_rfl
theorem B114_0_eq (x0 x1 x2 : List ByteArray) (x3 x4 : Int) : B114_0 (x0, x1, x2, x3, x4, ()) =
 bif decide (x4 < x3) then bif decide (Int.ofNat 0 ≤ x4) then Option.bind x2[Int.toNat x4]? fun y => bif decide (x4 ≥ Int.ofNat (List.length x1)) then some (Sum.inr (Sum.inl (Int.ofNat 1, ()))) else bif decide (Int.ofNat 0 ≤ x4) then Option.bind x1[Int.toNat x4]? fun y_1 => Option.bind (F115 (y, y_1, ())) fun r => bif !r.1 == Int.ofNat 0 then some (Sum.inr (Sum.inl (r.1, ()))) else some (Sum.inl (x0, x1, x2, x3, IntKind.wrap IntKind.i64 (x4 + Int.ofNat 1), ())) else none else none else some (Sum.inr (Sum.inr (x0, x1, ()))) := by kernel_rfl
theorem F114_eq (x0 x1 : List ByteArray) : F114 (x0, x1, ()) = Option.bind (loop B114_0 (x0, x1, x0, Int.ofNat (List.length x0), Int.ofNat 0, ())) fun r => Sum.elim (fun p => some (p.1, ())) (fun p => bif decide (Int.ofNat (List.length p.1) < Int.ofNat (List.length p.2.1)) then some (Int.negSucc 0, ()) else some (Int.ofNat 0, ())) r := by kernel_rfl
theorem F93_eq (x0 x1 : ByteArray) : F93 (x0, x1, ()) = bif bl x0 == bl x1 then some (Int.ofNat 0, ()) else bif bl x0 == [] then some (Int.ofNat 1, ()) else bif bl x1 == [] then some (Int.negSucc 0, ()) else Option.bind (F102 (x0, (lit [46]), ())) fun r => Option.bind (F102 (x1, (lit [46]), ())) fun r_1 => Option.bind (F114 (r.1, r_1.1, ())) fun r => some (r.1, ()) := by kernel_rfl
theorem F67_eq (x0 x1 x2 : Int) (x3 : ByteArray) (x4 x5 x6 : Int) (x7 : ByteArray) : F67 (x0, x1, x2, x3, x4, x5, x6, x7, ()) = Option.bind (F92 (x0, x4, ())) fun r => Option.bind (F92 (x1, x5, ())) fun r_1 => Option.bind (F92 (x2, x6, ())) fun r_2 => Option.bind (F93 (x3, x7, ())) fun r_3 => Option.bind (F66 ([r.1, r_1.1, r_2.1, r_3.1], ())) fun r => some (r.1, ()) := by kernel_rfl
theorem F40_eq (x0 x1 x2 : Int) (x3 : ByteArray) (x4 x5 : Bool) (x6 x7 x8 : Int) (x9 : ByteArray) (x10 x11 : Bool) : F40 (x0, x1, x2, x3, x4, x5, x6, x7, x8, x9, x10, x11, ()) =
 bif x5 then Option.bind (F65 (x5, ())) fun r => Option.bind (F65 (x11, ())) fun r_1 => some (IntKind.wrap IntKind.i64 (r.1 - r_1.1), ()) else bif x11 then Option.bind (F65 (x5, ())) fun r => Option.bind (F65 (x11, ())) fun r_1 => some (IntKind.wrap IntKind.i64 (r.1 - r_1.1), ()) else Option.bind (F67 (x0, x1, x2, x3, x6, x7, x8, x9, ())) fun r => Option.bind (F65 (x4, ())) fun r_1 => Option.bind (F65 (x10, ())) fun r_2 => Option.bind (F66 ([r.1, IntKind.wrap IntKind.i64 (r_1.1 - r_2.1)], ())) fun r => some (r.1, ()) := by kernel_rfl
theorem F69_eq (x0 x1 x2 : Int) (x3 : ByteArray) (x4 x5 : Bool) (x6 x7 x8 : Int) (x9 : ByteArray) (x10 x11 : Bool) : F69 (x0, x1, x2, x3, x4, x5, x6, x7, x8, x9, x10, x11, ()) = Option.bind (F40 (x0, x1, x2, x3, x4, x5, x6, x7, x8, x9, x10, x11, ())) fun r => some (decide (r.1 ≥ Int.ofNat 0), ()) := by kernel_rfl
theorem B74_0_eq (x0 x1 : Int) (x2 : List R8) : B74_0 (x0, x1, x2, ()) =
 bif decide (x1 < x0) then bif decide (Int.ofNat 0 ≤ x1) && decide (x1 < Int.ofNat (List.length x2)) then Option.bind x2[Int.toNat x1]? fun y => Option.bind (F69 (y.1, y.2.1, y.2.2.1, y.2.2.2.1, y.2.2.2.2.1, y.2.2.2.2.2.1, y.2.2.2.2.2.2.1, y.2.2.2.2.2.2.2.1, y.2.2.2.2.2.2.2.2.1, y.2.2.2.2.2.2.2.2.2.1, y.2.2.2.2.2.2.2.2.2.2.1, y.2.2.2.2.2.2.2.2.2.2.2.1, ())) fun r => bif r.1 then some (Sum.inr (Sum.inl (x1, x2, ()))) else some (Sum.inl (x0, IntKind.wrap IntKind.i64 (x1 + Int.ofNat 1), x2, ())) else none else some (Sum.inr (Sum.inr (x2, ()))) := by kernel_rfl
theorem F74_eq (x0 : List R8) : F74 (x0, ()) = Option.bind (loop B74_0 (Int.ofNat (List.length x0), Int.ofNat 0, x0, ())) fun r => Sum.elim (fun p => some (p.1, p.2.1, ())) (fun p => some (Int.negSucc 0, p.1, ())) r := by kernel_rfl
theorem B68_0_eq (x0 x1 : Int) (x2 : List R8) : B68_0 (x0, x1, x2, ()) =
 bif decide (x1 < Int.ofNat (List.length x2)) then bif decide (Int.ofNat 0 ≤ x1) && decide (x1 < Int.ofNat (List.length x2)) then Option.bind x2[Int.toNat x1]? fun y => Option.bind (F69 (y.1, y.2.1, y.2.2.1, y.2.2.2.1, y.2.2.2.2.1, y.2.2.2.2.2.1, y.2.2.2.2.2.2.1, y.2.2.2.2.2.2.2.1, y.2.2.2.2.2.2.2.2.1, y.2.2.2.2.2.2.2.2.2.1, y.2.2.2.2.2.2.2.2.2.2.1, y.2.2.2.2.2.2.2.2.2.2.2.1, ())) fun r => bif !r.1 then bif decide (Int.ofNat 0 ≤ x0) && decide (x0 < Int.ofNat (List.length x2)) then Option.bind x2[Int.toNat x0]? fun y_1 => some (Sum.inl (IntKind.wrap IntKind.i64 (x0 + Int.ofNat 1), IntKind.wrap IntKind.i64 (x1 + Int.ofNat 1), List.set x2 (Int.toNat x0) (y.1, y.2.1, y.2.2.1, y.2.2.2.1, y.2.2.2.2.1, y.2.2.2.2.2.1, y.2.2.2.2.2.2.1, y.2.2.2.2.2.2.2.1, y.2.2.2.2.2.2.2.2.1, y.2.2.2.2.2.2.2.2.2.1, y.2.2.2.2.2.2.2.2.2.2.1, y.2.2.2.2.2.2.2.2.2.2.2.1, ()), ())) else none else some (Sum.inl (x0, IntKind.wrap IntKind.i64 (x1 + Int.ofNat 1), x2, ())) else none else some (Sum.inr (x0, x2, ())) := by kernel_rfl
theorem F68_eq (x0 : List R8) : F68 (x0, ()) =
 Option.bind (F74 (x0, ())) fun r => bif r.1 == Int.negSucc 0 then some (0, List.length r.2.1, r.2.1, ()) else Option.bind (loop B68_0 (r.1, IntKind.wrap IntKind.i64 (r.1 + Int.ofNat 1), r.2.1, ())) fun r => bif decide (Int.ofNat 0 ≤ r.1) && (decide (r.1 ≤ Int.ofNat (List.length r.2.1)) && (decide (Int.ofNat (List.length r.2.1) ≤ Int.ofNat (List.length r.2.1)) && decide (Int.ofNat (List.length r.2.1) ≤ Int.ofNat (List.length r.2.1)))) then bif decide (Int.ofNat 0 ≤ r.1) && (decide (r.1 ≤ Int.ofNat (List.length (List.take (0 + Int.toNat r.1) r.2.1 ++ List.replicate (0 + Int.toNat (Int.ofNat (List.length r.2.1)) - (0 + Int.toNat r.1)) (Int.ofNat 0, Int.ofNat 0, Int.ofNat 0, (lit []), false, false, Int.ofNat 0, Int.ofNat 0, Int.ofNat 0, (lit []), false, false, ()) ++ List.drop (0 + Int.toNat r.1 + (0 + Int.toNat (Int.ofNat (List.length r.2.1)) - (0 + Int.toNat r.1))) r.2.1))) && decide (Int.ofNat (List.length (List.take (0 + Int.toNat r.1) r.2.1 ++ List.replicate (0 + Int.toNat (Int.ofNat (List.length r.2.1)) - (0 + Int.toNat r.1)) (Int.ofNat 0, Int.ofNat 0, Int.ofNat 0, (lit []), false, false, Int.ofNat 0, Int.ofNat 0, Int.ofNat 0, (lit []), false, false, ()) ++ List.drop (0 + Int.toNat r.1 + (0 + Int.toNat (Int.ofNat (List.length r.2.1)) - (0 + Int.toNat r.1))) r.2.1)) ≤ Int.ofNat (List.length (List.take (0 + Int.toNat r.1) r.2.1 ++ List.replicate (0 + Int.toNat (Int.ofNat (List.length r.2.1)) - (0 + Int.toNat r.1)) (Int.ofNat 0, Int.ofNat 0, Int.ofNat 0, (lit []), false, false, Int.ofNat 0, Int.ofNat 0, Int.ofNat 0, (lit []), false, false, ()) ++ List.drop (0 + Int.toNat r.1 + (0 + Int.toNat (Int.ofNat (List.length r.2.1)) - (0 + Int.toNat r.1))) r.2.1)))) then some (0, 0 + Int.toNat r.1, List.take (0 + Int.toNat r.1) r.2.1 ++ List.replicate (0 + Int.toNat (Int.ofNat (List.length r.2.1)) - (0 + Int.toNat r.1)) (Int.ofNat 0, Int.ofNat 0, Int.ofNat 0, (lit []), false, false, Int.ofNat 0, Int.ofNat 0, Int.ofNat 0, (lit []), false, false, ()) ++ List.drop (0 + Int.toNat r.1 + (0 + Int.toNat (Int.ofNat (List.length r.2.1)) - (0 + Int.toNat r.1))) r.2.1, ()) else none else none := by kernel_rfl
theorem F71_eq (x0 x1 x2 : Int) (x3 : ByteArray) (x4 x5 : Bool) (x6 x7 x8 : Int) (x9 : ByteArray) (x10 x11 : Bool) (x12 x13 x14 : Int) (x15 : ByteArray) (x16 x17 : Bool) (x18 x19 x20 : Int) (x21 : ByteArray) (x22 x23 : Bool) : F71 (x0, x1, x2, x3, x4, x5, x6, x7, x8, x9, x10, x11, x12, x13, x14, x15, x16, x17, x18, x19, x20, x21, x22, x23, ()) =
 Option.bind (F40 (x0, x1, x2, x3, x4, x5, x12, x13, x14, x15, x16, x17, ())) fun r => some (r.1, ()) := by kernel_rfl
theorem F72_eq (x0 : List R7) : F72 (x0, ()) = bif decide (Int.ofNat 0 ≤ Int.ofNat (List.length x0)) && (decide (Int.ofNat (List.length x0) ≤ Int.ofNat (List.length x0)) && decide (Int.ofNat (List.length x0) ≤ Int.ofNat (List.length x0))) then some (List.drop 0 (List.take (Int.toNat (Int.ofNat (List.length x0))) x0), ()) else none := by kernel_rfl
theorem B39v1_0_eq (x0 x1 : Int) (x2 : List R7) (x3 : List R8) : B39v1_0 (x0, x1, x2, x3, ()) =
 bif decide (x1 < x0) then bif decide (Int.ofNat 0 ≤ x1) && decide (x1 < Int.ofNat (List.length x2)) then Option.bind x2[Int.toNat x1]? fun y => bif y.2.2.2.2.2.2.2.2.2.2.1 then bif decide (List.length x3 + List.length [(y.1, y.2.1, y.2.2.1, y.2.2.2.1, y.2.2.2.2.2.2.2.2.1, false, Int.ofNat 0, Int.ofNat 0, Int.ofNat 0, (lit []), false, true, ())] ≤ 1466015503701) then some (Sum.inl (x0, IntKind.wrap IntKind.i64 (x1 + Int.ofNat 1), x2, x3 ++ [(y.1, y.2.1, y.2.2.1, y.2.2.2.1, y.2.2.2.2.2.2.2.2.1, false, Int.ofNat 0, Int.ofNat 0, Int.ofNat 0, (lit []), false, true, ())], ())) else none else bif decide (List.length x3 + List.length [(y.1, y.2.1, y.2.2.1, y.2.2.2.1, y.2.2.2.2.2.2.2.2.1, false, y.2.2.2.2.1, y.2.2.2.2.2.1, y.2.2.2.2.2.2.1, y.2.2.2.2.2.2.2.1, y.2.2.2.2.2.2.2.2.2.1, false, ())] ≤ 1466015503701) then some (Sum.inl (x0, IntKind.wrap IntKind.i64 (x1 + Int.ofNat 1), x2, x3 ++ [(y.1, y.2.1, y.2.2.1, y.2.2.2.1, y.2.2.2.2.2.2.2.2.1, false, y.2.2.2.2.1, y.2.2.2.2.2.1, y.2.2.2.2.2.2.1, y.2.2.2.2.2.2.2.1, y.2.2.2.2.2.2.2.2.2.1, false, ())], ())) else none else none else some (Sum.inr (x2, x3, ())) := by kernel_rfl
theorem F39v1_eq (x0 : List R7) : F39v1 (x0, ()) = Option.bind (loop B39v1_0 (Int.ofNat (List.length x0), Int.ofNat 0, x0, [], ())) fun r => some (r.1, r.2.1, ()) := by kernel_rfl
theorem F73_eq (x0 : Int) : F73 (x0, ()) =
 bif decide (x0 < Int.ofNat 0) then none else bif decide (IntKind.wrap IntKind.i64 (x0 - Int.ofNat 0) > Int.ofNat 0) then bif decide (Int.ofNat 0 < IntKind.wrap IntKind.i64 (x0 - Int.ofNat 0)) && decide (IntKind.wrap IntKind.i64 (x0 - Int.ofNat 0) ≤ Int.ofNat 1599289640401) then bif decide (Int.ofNat 0 ≤ Int.ofNat (List.length (List.replicate (Int.toNat (IntKind.wrap IntKind.i64 (x0 - Int.ofNat 0))) (Int.ofNat 0, Int.ofNat 0, Int.ofNat 0, (lit []), Int.ofNat 0, Int.ofNat 0, Int.ofNat 0, (lit []), false, false, false, ())))) then some (List.take 0 (List.replicate (Int.toNat (IntKind.wrap IntKind.i64 (x0 - Int.ofNat 0))) (Int.ofNat 0, Int.ofNat 0, Int.ofNat 0, (lit []), Int.ofNat 0, Int.ofNat 0, Int.ofNat 0, (lit []), false, false, false, ())), ()) else none else none else some ([], ()) := by kernel_rfl
theorem B42_0_eq (x0 : List (List R7)) (x1 : Int) (x2 : List (List R7)) (x3 x4 : Int) : B42_0 (x0, x1, x2, x3, x4, ()) =
 bif decide (x4 < x3) then bif decide (Int.ofNat 0 ≤ x4) then Option.bind x2[Int.toNat x4]? fun y => bif decide (IntKind.wrap IntKind.i64 (x1 + Int.ofNat (List.length y)) < Int.ofNat 0) then none else some (Sum.inl (x0, IntKind.wrap IntKind.i64 (x1 + Int.ofNat (List.length y)), x2, x3, IntKind.wrap IntKind.i64 (x4 + Int.ofNat 1), ())) else none else some (Sum.inr (x0, x1, ())) := by kernel_rfl
theorem B42_1_eq (x0 : List (List R7)) (x1 x2 : Int) (x3 : List R7) : B42_1 (x0, x1, x2, x3, ()) =
 bif decide (x2 < x1) then bif decide (Int.ofNat 0 ≤ x2) then Option.bind x0[Int.toNat x2]? fun y => bif decide (List.length x3 + List.length y ≤ 1599289640401) then some (Sum.inl (x0, x1, IntKind.wrap IntKind.i64 (x2 + Int.ofNat 1), x3 ++ y, ())) else none else none else some (Sum.inr (x3, ())) := by kernel_rfl
theorem F42_eq (x0 : List (List R7)) : F42 (x0, ()) = Option.bind (loop B42_0 (x0, Int.ofNat 0, x0, Int.ofNat (List.length x0), Int.ofNat 0, ())) fun r => Option.bind (F73 (r.2.1, ())) fun r_1 => Option.bind (loop B42_1 (r.1, Int.ofNat (List.length r.1), Int.ofNat 0, r_1.1, ())) fun r => some (r.1, ()) := by kernel_rfl
theorem F43_eq  : F43 (()) = some (Int.ofNat 0, Int.ofNat 0, Int.ofNat 0, (lit [48]), ()) := by kernel_rfl
theorem F45_eq (x0 x1 x2 : Int) (x3 : ByteArray) (x4 x5 : Bool) (x6 x7 x8 : Int) (x9 : ByteArray) (x10 x11 : Bool) (x12 x13 x14 : Int) (x15 : ByteArray) : F45 (x0, x1, x2, x3, x4, x5, x6, x7, x8, x9, x10, x11, x12, x13, x14, x15, ()) =
 Option.bind (F40 (x0, x1, x2, x3, x4, x5, x12, x13, x14, x15, false, false, ())) fun r => bif decide (r.1 ≤ Int.ofNat 0) then Option.bind (F40 (x12, x13, x14, x15, false, false, x6, x7, x8, x9, x10, x11, ())) fun r => some (decide (r.1 < Int.ofNat 0), x12, x13, x14, x15, ()) else some (false, x12, x13, x14, x15, ()) := by kernel_rfl
theorem B74v1_0_eq (x0 x1 : Int) (x2 : List R8) (x3 x4 x5 : Int) (x6 : ByteArray) : B74v1_0 (x0, x1, x2, x3, x4, x5, x6, ()) =
 bif decide (x1 < x0) then bif decide (Int.ofNat 0 ≤ x1) && decide (x1 < Int.ofNat (List.length x2)) then Option.bind x2[Int.toNat x1]? fun y => Option.bind (F45 (y.1, y.2.1, y.2.2.1, y.2.2.2.1, y.2.2.2.2.1, y.2.2.2.2.2.1, y.2.2.2.2.2.2.1, y.2.2.2.2.2.2.2.1, y.2.2.2.2.2.2.2.2.1, y.2.2.2.2.2.2.2.2.2.1, y.2.2.2.2.2.2.2.2.2.2.1, y.2.2.2.2.2.2.2.2.2.2.2.1, x3, x4, x5, x6, ())) fun r => bif r.1 then some (Sum.inr (Sum.inl (x1, x2, r.2.1, r.2.2.1, r.2.2.2.1, r.2.2.2.2.1, ()))) else some (Sum.inl (x0, IntKind.wrap IntKind.i64 (x1 + Int.ofNat 1), x2, r.2.1, r.2.2.1, r.2.2.2.1, r.2.2.2.2.1, ())) else none else some (Sum.inr (Sum.inr (x2, x3, x4, x5, x6, ()))) := by kernel_rfl
theorem F74v1_eq (x0 : List R8) (x1 x2 x3 : Int) (x4 : ByteArray) : F74v1 (x0, x1, x2, x3, x4, ()) = Option.bind (loop B74v1_0 (Int.ofNat (List.length x0), Int.ofNat 0, x0, x1, x2, x3, x4, ())) fun r => Sum.elim (fun p => some (p.1, p.2.1, p.2.2.1, p.2.2.2.1, p.2.2.2.2.1, p.2.2.2.2.2.1, ())) (fun p => some (Int.negSucc 0, p.1, p.2.1, p.2.2.1, p.2.2.2.1, p.2.2.2.2.1, ())) r := by kernel_rfl
theorem F44_eq (x0 : List R8) (x1 x2 x3 : Int) (x4 : ByteArray) : F44 (x0, x1, x2, x3, x4, ()) = Option.bind (F74v1 (x0, x1, x2, x3, x4, ())) fun r => some (decide (r.1 ≥ Int.ofNat 0), r.2.1, r.2.2.1, r.2.2.2.1, r.2.2.2.2.1, r.2.2.2.2.2.1, ()) := by kernel_rfl
theorem F24_eq (x0 : List R7) (x1 x2 x3 : Int) (x4 : ByteArray) : F24 (x0, x1, x2, x3, x4, ()) = Option.bind (F39 (x0, ())) fun r => Option.bind (F44 (r.1, x1, x2, x3, x4, ())) fun r => some (r.1, ()) := by kernel_rfl
theorem F50_eq (x0 : ByteArray) : F50 (x0, ()) = some (x0, Int.ofNat 0, ()) := by kernel_rfl
theorem F77_eq  : F77 (()) = Option.bind (F43 ()) fun r => some ([(r.1, r.2.1, r.2.2.1, r.2.2.2.1, Int.ofNat 0, Int.ofNat 0, Int.ofNat 0, (lit []), false, false, true, ())], ()) := by kernel_rfl
theorem F106_eq (x0 x1 : ByteArray) : F106 (x0, x1, ()) =
 bif decide (Int.ofNat (ByteArray.size x0) ≥ Int.ofNat (ByteArray.size x1)) then bif decide (Int.ofNat 0 ≤ Int.ofNat (ByteArray.size x1)) && decide (Int.ofNat (ByteArray.size x1) ≤ Int.ofNat (ByteArray.size x0)) then some (bl (ByteArray.extract x0 0 (Int.toNat (Int.ofNat (ByteArray.size x1)))) == bl x1, ()) else none else some (false, ()) := by kernel_rfl
theorem F82_eq (x0 x1 : ByteArray) : F82 (x0, x1, ()) = Option.bind (F106 (x0, x1, ())) fun r => some (r.1, ()) := by kernel_rfl
theorem F52_eq (x0 x1 : ByteArray) (x2 : Int) : F52 (x0, x1, x2, ()) =
 bif decide (Int.ofNat 0 ≤ x2) && (decide (x2 ≤ Int.ofNat (ByteArray.size x1)) && decide (Int.ofNat (ByteArray.size x1) ≤ Int.ofNat (ByteArray.size x1))) then Option.bind (F82 (ByteArray.extract x1 (Int.toNat x2) (Int.toNat (Int.ofNat (ByteArray.size x1))), x0, ())) fun r => bif !r.1 then some (false, x1, x2, ()) else some (true, x1, IntKind.wrap IntKind.i64 (x2 + Int.ofNat (ByteArray.size x0)), ()) else none := by kernel_rfl
theorem F140_eq (x0 : ByteArray) : F140 (x0, ()) =
 bif Int.ofNat (ByteArray.size x0) == Int.ofNat 0 then some ((lit []), ()) else bif decide (Int.ofNat 0 ≤ Int.ofNat (ByteArray.size x0)) && (decide (Int.ofNat (ByteArray.size x0) ≤ Int.ofNat (ByteArray.size x0)) && decide (Int.ofNat 1 * Int.ofNat (ByteArray.size x0) ≤ Int.ofNat 281474976710656) && decide (Int.ofNat (ByteArray.size x0) ≤ Int.ofNat 9223372036854775807)) then bif decide (ByteArray.size x0 ≤ List.length (List.replicate (Int.toNat (Int.ofNat (ByteArray.size x0))) (Int.ofNat 0))) then bif decide (Int.ofNat 0 < Int.ofNat (List.length (List.map (fun b => Int.ofNat b.1.1.1) (bl x0) ++ List.drop (ByteArray.size x0) (List.replicate (Int.toNat (Int.ofNat (ByteArray.size x0))) (Int.ofNat 0))))) then bif Int.ofNat (List.length (List.map (fun b => Int.ofNat b.1.1.1) (bl x0) ++ List.drop (ByteArray.size x0) (List.replicate (Int.toNat (Int.ofNat (ByteArray.size x0))) (Int.ofNat 0)))) == Int.ofNat (List.length (List.map (fun b => Int.ofNat b.1.1.1) (bl x0) ++ List.drop (ByteArray.size x0) (List.replicate (Int.toNat (Int.ofNat (ByteArray.size x0))) (Int.ofNat 0)))) && okBytes (List.map (fun b => Int.ofNat b.1.1.1) (bl x0) ++ List.drop (ByteArray.size x0) (List.replicate (Int.toNat (Int.ofNat (ByteArray.size x0))) (Int.ofNat 0))) then some (bstr (List.map (fun b => Int.ofNat b.1.1.1) (bl x0) ++ List.drop (ByteArray.size x0) (List.replicate (Int.toNat (Int.ofNat (ByteArray.size x0))) (Int.ofNat 0))), ()) else none else none else none else none := by kernel_rfl
theorem F104_eq (x0 : ByteArray) : F104 (x0, ()) = Option.bind (F140 (x0, ())) fun r => some (r.1, ()) := by kernel_rfl
theorem F133_eq (x0 : ByteArray) (x1 : Int) : F133 (x0, x1, ()) = Option.bind (F161 (x0, x1, ())) fun r => some (r.1, ()) := by kernel_rfl
theorem F156_eq (x0 : ByteArray) (x1 : Int) : F156 (x0, x1, ()) = bif decide (x1 ≥ Int.ofNat (ByteArray.size x0)) then some (Int.ofNat 0, false, x0, x1, ()) else bif decide (Int.ofNat 0 ≤ x1) && decide (x1 < Int.ofNat (ByteArray.size x0)) then some (bt x0 x1, true, x0, x1, ()) else none := by kernel_rfl
theorem B126_0_eq (x0 : ByteArray) (x1 x2 : Int) (x3 : Bool) (x4 : ByteArray) (x5 : Int) : B126_0 (x0, x1, x2, x3, x4, x5, ()) =
 bif x3 then Option.bind (F133 (x0, x2, ())) fun r => bif decide (r.1 ≥ Int.ofNat 0) then Option.bind (F156 (x4, IntKind.wrap IntKind.i64 (x5 + Int.ofNat 1), ())) fun r => some (Sum.inl (x0, x1, r.1, r.2.1, r.2.2.1, r.2.2.2.1, ())) else some (Sum.inr (x1, x4, x5, ())) else some (Sum.inr (x1, x4, x5, ())) := by kernel_rfl
theorem F126_eq (x0 x1 : ByteArray) (x2 : Int) : F126 (x0, x1, x2, ()) =
 Option.bind (F156 (x1, x2, ())) fun r => Option.bind (loop B126_0 (x0, x2, r.1, r.2.1, r.2.2.1, r.2.2.2.1, ())) fun r => bif decide (Int.ofNat 0 ≤ r.1) && (decide (r.1 ≤ r.2.2.1) && decide (r.2.2.1 ≤ Int.ofNat (ByteArray.size r.2.1))) then Option.bind (F104 (ByteArray.extract r.2.1 (Int.toNat r.1) (Int.toNat r.2.2.1), ())) fun r_1 => some (r_1.1, r.2.1, r.2.2.1, ()) else none := by kernel_rfl
theorem F96_eq (x0 x1 : ByteArray) (x2 : Int) (x3 : ByteArray) (x4 : Int) : F96 (x0, x1, x2, x3, x4, ()) = Option.bind (F126 ((lit [32]), x3, x4, ())) fun r => some (x0, x1, x2, r.2.1, r.2.2.1, ()) := by kernel_rfl
theorem F78_eq (x0 x1 : ByteArray) (x2 : Int) (x3 : ByteArray) (x4 : Int) : F78 (x0, x1, x2, x3, x4, ()) =
 Option.bind (F96 (x0, x1, x2, x3, x4, ())) fun r => bif decide (Int.ofNat 0 ≤ r.2.2.2.2.1) && (decide (r.2.2.2.2.1 ≤ Int.ofNat (ByteArray.size r.1)) && decide (Int.ofNat (ByteArray.size r.1) ≤ Int.ofNat (ByteArray.size r.1))) then Option.bind (FIndexAny (ByteArray.extract r.1 (Int.toNat r.2.2.2.2.1) (Int.toNat (Int.ofNat (ByteArray.size r.1))), (lit [32, 124]), ())) fun r_1 => bif decide (r_1.1 < Int.ofNat 0) then bif decide (Int.ofNat 0 ≤ r.2.2.2.2.1) && (decide (r.2.2.2.2.1 ≤ IntKind.wrap IntKind.i64 (r.2.2.2.2.1 + IntKind.wrap IntKind.i64 (Int.ofNat (ByteArray.size r.1) - r.2.2.2.2.1))) && decide (IntKind.wrap IntKind.i64 (r.2.2.2.2.1 + IntKind.wrap IntKind.i64 (Int.ofNat (ByteArray.size r.1) - r.2.2.2.2.1)) ≤ Int.ofNat (ByteArray.size r.1))) then Option.bind (F52 (ByteArray.extract r.1 (Int.toNat r.2.2.2.2.1) (Int.toNat (IntKind.wrap IntKind.i64 (r.2.2.2.2.1 + IntKind.wrap IntKind.i64 (Int.ofNat (ByteArray.size r.1) - r.2.2.2.2.1)))), r.2.2.2.1, r.2.2.2.2.1, ())) fun r_2 => bif r_2.1 then some (decide (IntKind.wrap IntKind.i64 (Int.ofNat (ByteArray.size r.1) - r.2.2.2.2.1) > Int.ofNat 0), r.1, ByteArray.extract r.1 (Int.toNat r.2.2.2.2.1) (Int.toNat (IntKind.wrap IntKind.i64 (r.2.2.2.2.1 + IntKind.wrap IntKind.i64 (Int.ofNat (ByteArray.size r.1) - r.2.2.2.2.1)))), r.2.2.2.2.1, r_2.2.1, r_2.2.2.1, ()) else some (false, r.1, ByteArray.extract r.1 (Int.toNat r.2.2.2.2.1) (Int.toNat (IntKind.wrap IntKind.i64 (r.2.2.2.2.1 + IntKind.wrap IntKind.i64 (Int.ofNat (ByteArray.size r.1) - r.2.2.2.2.1)))), r.2.2.2.2.1, r_2.2.1, r_2.2.2.1, ()) else none else bif decide (Int.ofNat 0 ≤ r.2.2.2.2.1) && (decide (r.2.2.2.2.1 ≤ IntKind.wrap IntKind.i64 (r.2.2.2.2.1 + r_1.1)) && decide (IntKind.wrap IntKind.i64 (r.2.2.2.2.1 + r_1.1) ≤ Int.ofNat (ByteArray.size r.1))) then Option.bind (F52 (ByteArray.extract r.1 (Int.toNat r.2.2.2.2.1) (Int.toNat (IntKind.wrap IntKind.i64 (r.2.2.2.2.1 + r_1.1))), r.2.2.2.1, r.2.2.2.2.1, ())) fun r_2 => bif r_2.1 then some (decide (r_1.1 > Int.ofNat 0), r.1, ByteArray.extract r.1 (Int.toNat r.2.2.2.2.1) (Int.toNat (IntKind.wrap IntKind.i64 (r.2.2.2.2.1 + r_1.1))), r.2.2.2.2.1, r_2.2.1, r_2.2.2.1, ()) else some (false, r.1, ByteArray.extract r.1 (Int.toNat r.2.2.2.2.1) (Int.toNat (IntKind.wrap IntKind.i64 (r.2.2.2.2.1 + r_1.1))), r.2.2.2.2.1, r_2.2.1, r_2.2.2.1, ()) else none else none := by kernel_rfl
theorem F137_eq (x0 x1 : ByteArray) : F137 (x0, x1, ()) =
 Option.bind (F106 (x0, x1, ())) fun r => bif !r.1 then some (x0, false, ()) else bif decide (Int.ofNat 0 ≤ Int.ofNat (ByteArray.size x1)) && (decide (Int.ofNat (ByteArray.size x1) ≤ Int.ofNat (ByteArray.size x0)) && decide (Int.ofNat (ByteArray.size x0) ≤ Int.ofNat (ByteArray.size x0))) then some (ByteArray.extract x0 (Int.toNat (Int.ofNat (ByteArray.size x1))) (Int.toNat (Int.ofNat (ByteArray.size x0))), true, ()) else none := by kernel_rfl
theorem F100_eq (x0 x1 : ByteArray) : F100 (x0, x1, ()) = Option.bind (F137 (x0, x1, ())) fun r => some (r.1, r.2.1, ()) := by kernel_rfl
theorem B103_0_eq (x0 : ByteArray) (x1 x2 x3 : Int) : B103_0 (x0, x1, x2, x3, ()) =
 bif decide (x3 < x2) then bif decide (Int.ofNat 0 ≤ x3) && decide (x3 < Int.ofNat (ByteArray.size x0)) then bif decide (bt x0 x3 < Int.ofNat 48) then some (Sum.inr (Sum.inl (Int.ofNat 0, false, ()))) else bif decide (Int.ofNat 0 ≤ x3) && decide (x3 < Int.ofNat (ByteArray.size x0)) then bif decide (bt x0 x3 > Int.ofNat 57) then some (Sum.inr (Sum.inl (Int.ofNat 0, false, ()))) else bif decide (Int.ofNat 0 ≤ x3) && decide (x3 < Int.ofNat (ByteArray.size x0)) then some (Sum.inl (x0, IntKind.wrap IntKind.i64 (IntKind.wrap IntKind.i64 (Int.ofNat 10 * x1) + IntKind.wrap IntKind.i64 (IntKind.wrap IntKind.u8 (bt x0 x3 - Int.ofNat 48))), x2, IntKind.wrap IntKind.i64 (x3 + Int.ofNat 1), ())) else none else none else none else some (Sum.inr (Sum.inr (x1, ()))) := by kernel_rfl
theorem F103_eq (x0 : ByteArray) : F103 (x0, ()) =
 bif decide (Int.ofNat (ByteArray.size x0) < Int.ofNat 1) then some (Int.ofNat 0, false, ()) else bif decide (Int.ofNat (ByteArray.size x0) > Int.ofNat 9) then some (Int.ofNat 0, false, ()) else bif decide (Int.ofNat (ByteArray.size x0) > Int.ofNat 1) then bif decide (Int.ofNat 0 < Int.ofNat (ByteArray.size x0)) then bif bt x0 (Int.ofNat 0) == Int.ofNat 48 then some (Int.ofNat 0, false, ()) else Option.bind (loop B103_0 (x0, Int.ofNat 0, Int.ofNat (ByteArray.size x0), Int.ofNat 0, ())) fun r => Sum.elim (fun p => some (p.1, p.2.1, ())) (fun p => some (p.1, true, ())) r else none else Option.bind (loop B103_0 (x0, Int.ofNat 0, Int.ofNat (ByteArray.size x0), Int.ofNat 0, ())) fun r => Sum.elim (fun p => some (p.1, p.2.1, ())) (fun p => some (p.1, true, ())) r := by kernel_rfl
theorem F173_eq (x0 x1 : ByteArray) : F173 (x0, x1, ()) =
 bif decide (Int.ofNat (ByteArray.size x0) ≥ Int.ofNat (ByteArray.size x1)) then bif decide (Int.ofNat 0 ≤ IntKind.wrap IntKind.i64 (Int.ofNat (ByteArray.size x0) - Int.ofNat (ByteArray.size x1))) && (decide (IntKind.wrap IntKind.i64 (Int.ofNat (ByteArray.size x0) - Int.ofNat (ByteArray.size x1)) ≤ Int.ofNat (ByteArray.size x0)) && decide (Int.ofNat (ByteArray.size x0) ≤ Int.ofNat (ByteArray.size x0))) then some (bl (ByteArray.extract x0 (Int.toNat (IntKind.wrap IntKind.i64 (Int.ofNat (ByteArray.size x0) - Int.ofNat (ByteArray.size x1)))) (Int.toNat (Int.ofNat (ByteArray.size x0)))) == bl x1, ()) else none else some (false, ()) := by kernel_rfl
theorem F160_eq (x0 x1 : ByteArray) : F160 (x0, x1, ()) =
 Option.bind (F173 (x0, x1, ())) fun r => bif !r.1 then some (x0, false, ()) else bif decide (Int.ofNat 0 ≤ IntKind.wrap IntKind.i64 (Int.ofNat (ByteArray.size x0) - Int.ofNat (ByteArray.size x1))) && decide (IntKind.wrap IntKind.i64 (Int.ofNat (ByteArray.size x0) - Int.ofNat (ByteArray.size x1)) ≤ Int.ofNat (ByteArray.size x0)) then some (ByteArray.extract x0 0 (Int.toNat (IntKind.wrap IntKind.i64 (Int.ofNat (ByteArray.size x0) - Int.ofNat (ByteArray.size x1)))), true, ()) else none := by kernel_rfl
theorem F131_eq (x0 x1 : ByteArray) : F131 (x0, x1, ()) = Option.bind (F160 (x0, x1, ())) fun r => some (r.1, r.2.1, ()) := by kernel_rfl
theorem B132_0_eq (x0 x1 x2 x3 x4 : Int) (x5 : ByteArray) (x6 x7 : Bool) (x8 x9 x10 : Int) : B132_0 (x0, x1, x2, x3, x4, x5, x6, x7, x8, x9, x10, ()) =
 bif decide (x1 < Int.ofNat 3) then bif x1 == Int.ofNat 0 then some (Sum.inl (x0, IntKind.wrap IntKind.i64 (x1 + Int.ofNat 1), x2, x3, x4, x5, x6, x7, Int.ofNat 0, x9, x10, ())) else bif x1 == Int.ofNat 1 then some (Sum.inl (x0, IntKind.wrap IntKind.i64 (x1 + Int.ofNat 1), x2, x3, x4, x5, x6, x7, x8, Int.ofNat 0, x10, ())) else bif x1 == Int.ofNat 2 then some (Sum.inl (x0, IntKind.wrap IntKind.i64 (x1 + Int.ofNat 1), x2, x3, x4, x5, x6, x7, x8, x9, Int.ofNat 0, ())) else none else some (Sum.inr (x0, x2, x3, x4, x5, x6, x7, x8, x9, x10, ())) := by kernel_rfl
theorem B132_1_eq (x0 x1 x2 x3 : Int) (x4 : ByteArray) (x5 x6 : Bool) (x7 x8 x9 : Int) : B132_1 (x0, x1, x2, x3, x4, x5, x6, x7, x8, x9, ()) =
 bif decide (x0 ≥ Int.ofNat 0) then bif x0 == Int.ofNat 0 then bif decide (x7 < Int.ofNat 999999) then bif x0 == Int.ofNat 0 then bif x0 == Int.ofNat 0 then some (Sum.inr (Sum.inl (IntKind.wrap IntKind.i64 (x7 + Int.ofNat 1), x8, x9, (lit [48]), false, false, ()))) else bif x0 == Int.ofNat 1 then some (Sum.inr (Sum.inl (x7, IntKind.wrap IntKind.i64 (x7 + Int.ofNat 1), x9, (lit [48]), false, false, ()))) else bif x0 == Int.ofNat 2 then some (Sum.inr (Sum.inl (x7, x8, IntKind.wrap IntKind.i64 (x7 + Int.ofNat 1), (lit [48]), false, false, ()))) else none else bif x0 == Int.ofNat 1 then bif x0 == Int.ofNat 0 then some (Sum.inr (Sum.inl (IntKind.wrap IntKind.i64 (x8 + Int.ofNat 1), x8, x9, (lit [48]), false, false, ()))) else bif x0 == Int.ofNat 1 then some (Sum.inr (Sum.inl (x7, IntKind.wrap IntKind.i64 (x8 + Int.ofNat 1), x9, (lit [48]), false, false, ()))) else bif x0 == Int.ofNat 2 then some (Sum.inr (Sum.inl (x7, x8, IntKind.wrap IntKind.i64 (x8 + Int.ofNat 1), (lit [48]), false, false, ()))) else none else bif x0 == Int.ofNat 2 then bif x0 == Int.ofNat 0 then some (Sum.inr (Sum.inl (IntKind.wrap IntKind.i64 (x9 + Int.ofNat 1), x8, x9, (lit [48]), false, false, ()))) else bif x0 == Int.ofNat 1 then some (Sum.inr (Sum.inl (x7, IntKind.wrap IntKind.i64 (x9 + Int.ofNat 1), x9, (lit [48]), false, false, ()))) else bif x0 == Int.ofNat 2 then some (Sum.inr (Sum.inl (x7, x8, IntKind.wrap IntKind.i64 (x9 + Int.ofNat 1), (lit [48]), false, false, ()))) else none else none else bif x0 == Int.ofNat 0 then some (Sum.inl (IntKind.wrap IntKind.i64 (x0 - Int.ofNat 1), x1, x2, x3, x4, x5, x6, Int.ofNat 0, x8, x9, ())) else bif x0 == Int.ofNat 1 then some (Sum.inl (IntKind.wrap IntKind.i64 (x0 - Int.ofNat 1), x1, x2, x3, x4, x5, x6, x7, Int.ofNat 0, x9, ())) else bif x0 == Int.ofNat 2 then some (Sum.inl (IntKind.wrap IntKind.i64 (x0 - Int.ofNat 1), x1, x2, x3, x4, x5, x6, x7, x8, Int.ofNat 0, ())) else none else bif x0 == Int.ofNat 1 then bif decide (x8 < Int.ofNat 999999) then bif x0 == Int.ofNat 0 then bif x0 == Int.ofNat 0 then some (Sum.inr (Sum.inl (IntKind.wrap IntKind.i64 (x7 + Int.ofNat 1), x8, x9, (lit [48]), false, false, ()))) else bif x0 == Int.ofNat 1 then some (Sum.inr (Sum.inl (x7, IntKind.wrap IntKind.i64 (x7 + Int.ofNat 1), x9, (lit [48]), false, false, ()))) else bif x0 == Int.ofNat 2 then some (Sum.inr (Sum.inl (x7, x8, IntKind.wrap IntKind.i64 (x7 + Int.ofNat 1), (lit [48]), false, false, ()))) else none else bif x0 == Int.ofNat 1 then bif x0 == Int.ofNat 0 then some (Sum.inr (Sum.inl (IntKind.wrap IntKind.i64 (x8 + Int.ofNat 1), x8, x9, (lit [48]), false, false, ()))) else bif x0 == Int.ofNat 1 then some (Sum.inr (Sum.inl (x7, IntKind.wrap IntKind.i64 (x8 + Int.ofNat 1), x9, (lit [48]), false, false, ()))) else bif x0 == Int.ofNat 2 then some (Sum.inr (Sum.inl (x7, x8, IntKind.wrap IntKind.i64 (x8 + Int.ofNat 1), (lit [48]), false, false, ()))) else none else bif x0 == Int.ofNat 2 then bif x0 == Int.ofNat 0 then some (Sum.inr (Sum.inl (IntKind.wrap IntKind.i64 (x9 + Int.ofNat 1), x8, x9, (lit [48]), false, false, ()))) else bif x0 == Int.ofNat 1 then some (Sum.inr (Sum.inl (x7, IntKind.wrap IntKind.i64 (x9 + Int.ofNat 1), x9, (lit [48]), false, false, ()))) else bif x0 == Int.ofNat 2 then some (Sum.inr (Sum.inl (x7, x8, IntKind.wrap IntKind.i64 (x9 + Int.ofNat 1), (lit [48]), false, false, ()))) else none else none else bif x0 == Int.ofNat 0 then some (Sum.inl (IntKind.wrap IntKind.i64 (x0 - Int.ofNat 1), x1, x2, x3, x4, x5, x6, Int.ofNat 0, x8, x9, ())) else bif x0 == Int.ofNat 1 then some (Sum.inl (IntKind.wrap IntKind.i64 (x0 - Int.ofNat 1), x1, x2, x3, x4, x5, x6, x7, Int.ofNat 0, x9, ())) else bif x0 == Int.ofNat 2 then some (Sum.inl (IntKind.wrap IntKind.i64 (x0 - Int.ofNat 1), x1, x2, x3, x4, x5, x6, x7, x8, Int.ofNat 0, ())) else none else bif x0 == Int.ofNat 2 then bif decide (x9 < Int.ofNat 999999) then bif x0 == Int.ofNat 0 then bif x0 == Int.ofNat 0 then some (Sum.inr (Sum.inl (IntKind.wrap IntKind.i64 (x7 + Int.ofNat 1), x8, x9, (lit [48]), false, false, ()))) else bif x0 == Int.ofNat 1 then some (Sum.inr (Sum.inl (x7, IntKind.wrap IntKind.i64 (x7 + Int.ofNat 1), x9, (lit [48]), false, false, ()))) else bif x0 == Int.ofNat 2 then some (Sum.inr (Sum.inl (x7, x8, IntKind.wrap IntKind.i64 (x7 + Int.ofNat 1), (lit [48]), false, false, ()))) else none else bif x0 == Int.ofNat 1 then bif x0 == Int.ofNat 0 then some (Sum.inr (Sum.inl (IntKind.wrap IntKind.i64 (x8 + Int.ofNat 1), x8, x9, (lit [48]), false, false, ()))) else bif x0 == Int.ofNat 1 then some (Sum.inr (Sum.inl (x7, IntKind.wrap IntKind.i64 (x8 + Int.ofNat 1), x9, (lit [48]), false, false, ()))) else bif x0 == Int.ofNat 2 then some (Sum.inr (Sum.inl (x7, x8, IntKind.wrap IntKind.i64 (x8 + Int.ofNat 1), (lit [48]), false, false, ()))) else none else bif x0 == Int.ofNat 2 then bif x0 == Int.ofNat 0 then some (Sum.inr (Sum.inl (IntKind.wrap IntKind.i64 (x9 + Int.ofNat 1), x8, x9, (lit [48]), false, false, ()))) else bif x0 == Int.ofNat 1 then some (Sum.inr (Sum.inl (x7, IntKind.wrap IntKind.i64 (x9 + Int.ofNat 1), x9, (lit [48]), false, false, ()))) else bif x0 == Int.ofNat 2 then some (Sum.inr (Sum.inl (x7, x8, IntKind.wrap IntKind.i64 (x9 + Int.ofNat 1), (lit [48]), false, false, ()))) else none else none else bif x0 == Int.ofNat 0 then some (Sum.inl (IntKind.wrap IntKind.i64 (x0 - Int.ofNat 1), x1, x2, x3, x4, x5, x6, Int.ofNat 0, x8, x9, ())) else bif x0 == Int.ofNat 1 then some (Sum.inl (IntKind.wrap IntKind.i64 (x0 - Int.ofNat 1), x1, x2, x3, x4, x5, x6, x7, Int.ofNat 0, x9, ())) else bif x0 == Int.ofNat 2 then some (Sum.inl (IntKind.wrap IntKind.i64 (x0 - Int.ofNat 1), x1, x2, x3, x4, x5, x6, x7, x8, Int.ofNat 0, ())) else none else none else some (Sum.inr (Sum.inr (x1, x2, x3, x4, x5, x6, ()))) := by kernel_rfl
theorem F132_eq (x0 x1 x2 : Int) (x3 : ByteArray) (x4 : Int) : F132 (x0, x1, x2, x3, x4, ()) =
 Option.bind (loop B132_0 (x4, IntKind.wrap IntKind.i64 (x4 + Int.ofNat 1), Int.ofNat 0, Int.ofNat 0, Int.ofNat 0, (lit []), false, false, x0, x1, x2, ())) fun r => Option.bind (loop B132_1 (r.1, r.2.1, r.2.2.1, r.2.2.2.1, r.2.2.2.2.1, r.2.2.2.2.2.1, r.2.2.2.2.2.2.1, r.2.2.2.2.2.2.2.1, r.2.2.2.2.2.2.2.2.1, r.2.2.2.2.2.2.2.2.2.1, ())) fun r => Sum.elim (fun p => some (p.1, p.2.1, p.2.2.1, p.2.2.2.1, p.2.2.2.2.1, p.2.2.2.2.2.1, ())) (fun p => some (Int.ofNat 0, Int.ofNat 0, Int.ofNat 0, (lit []), false, true, ())) r := by kernel_rfl
theorem F134_eq  : F134 (()) = some (Int.ofNat 0, Int.ofNat 0, Int.ofNat 0, (lit []), false, true, ()) := by kernel_rfl
theorem F135_eq  : F135 (()) = Option.bind (F43 ()) fun r => some (r.1, r.2.1, r.2.2.1, r.2.2.2.1, false, false, ()) := by kernel_rfl
theorem F136_eq (x0 x1 x2 : Int) (x3 : ByteArray) : F136 (x0, x1, x2, x3, ()) =
 bif decide (x0 > Int.ofNat 0) then Option.bind (F132 (x0, x1, x2, x3, Int.ofNat 0, ())) fun r => some (r.1, r.2.1, r.2.2.1, r.2.2.2.1, r.2.2.2.2.1, r.2.2.2.2.2.1, ()) else bif decide (x1 > Int.ofNat 0) then Option.bind (F132 (x0, x1, x2, x3, Int.ofNat 1, ())) fun r => some (r.1, r.2.1, r.2.2.1, r.2.2.2.1, r.2.2.2.2.1, r.2.2.2.2.2.1, ()) else Option.bind (F132 (x0, x1, x2, x3, Int.ofNat 2, ())) fun r => some (r.1, r.2.1, r.2.2.1, r.2.2.2.1, r.2.2.2.2.1, r.2.2.2.2.2.1, ()) := by kernel_rfl
theorem F138_eq (x0 x1 : ByteArray) : F138 (x0, x1, ()) =
 Option.bind (F162 (x0, x1, ())) fun r => bif decide (r.1 ≥ Int.ofNat 0) then bif decide (Int.ofNat 0 ≤ r.1) && decide (r.1 ≤ Int.ofNat (ByteArray.size x0)) then bif decide (Int.ofNat 0 ≤ IntKind.wrap IntKind.i64 (r.1 + Int.ofNat (ByteArray.size x1))) && (decide (IntKind.wrap IntKind.i64 (r.1 + Int.ofNat (ByteArray.size x1)) ≤ Int.ofNat (ByteArray.size x0)) && decide (Int.ofNat (ByteArray.size x0) ≤ Int.ofNat (ByteArray.size x0))) then some (ByteArray.extract x0 0 (Int.toNat r.1), ByteArray.extract x0 (Int.toNat (IntKind.wrap IntKind.i64 (r.1 + Int.ofNat (ByteArray.size x1)))) (Int.toNat (Int.ofNat (ByteArray.size x0))), true, ()) else none else none else some (x0, (lit []), false, ()) := by kernel_rfl
theorem F101_eq (x0 x1 : ByteArray) : F101 (x0, x1, ()) = Option.bind (F138 (x0, x1, ())) fun r => some (r.1, r.2.1, r.2.2.1, ()) := by kernel_rfl
theorem F141_eq (x0 : Int) : F141 (x0, ()) = bif decide (x0 ≥ Int.ofNat 0) then some (decide (x0 ≤ Int.ofNat 999999), ()) else some (false, ()) := by kernel_rfl
theorem B144_0_eq (x0 : ByteArray) (x1 x2 : Int) : B144_0 (x0, x1, x2, ()) =
 bif decide (x2 < x1) then bif decide (Int.ofNat 0 ≤ x2) && decide (x2 < Int.ofNat (ByteArray.size x0)) then Option.bind (F133 ((lit [97, 98, 99, 100, 101, 102, 103, 104, 105, 106, 107, 108, 109, 110, 111, 112, 113, 114, 115, 116, 117, 118, 119, 120, 121, 122, 65, 66, 67, 68, 69, 70, 71, 72, 73, 74, 75, 76, 77, 78, 79, 80, 81, 82, 83, 84, 85, 86, 87, 88, 89, 90, 48, 49, 50, 51, 52, 53, 54, 55, 56, 57, 45]), bt x0 x2, ())) fun r => bif decide (r.1 < Int.ofNat 0) then some (Sum.inr (Sum.inl (false, ()))) else some (Sum.inl (x0, x1, IntKind.wrap IntKind.i64 (x2 + Int.ofNat 1), ())) else none else some (Sum.inr (Sum.inr (x0, ()))) := by kernel_rfl
theorem F144_eq (x0 : ByteArray) : F144 (x0, ()) =
 Option.bind (loop B144_0 (x0, Int.ofNat (ByteArray.size x0), Int.ofNat 0, ())) fun r => Sum.elim (fun p => some (p.1, ())) (fun p => bif !bl p.1 == [] then bif decide (Int.ofNat (ByteArray.size p.1) > Int.ofNat 1) then bif decide (Int.ofNat 0 < Int.ofNat (ByteArray.size p.1)) then bif bt p.1 (Int.ofNat 0) == Int.ofNat 48 then Option.bind (F149 (p.1, ())) fun r => some (!r.1, ()) else some (true, ()) else none else some (true, ()) else some (false, ())) r := by kernel_rfl
theorem F143_eq (x0 : ByteArray) : F143 (x0, ()) = Option.bind (F144 (x0, ())) fun r => some (!r.1, ()) := by kernel_rfl
theorem B166_0_eq (x0 : List ByteArray) (x1 x2 : Int) : B166_0 (x0, x1, x2, ()) =
 bif decide (x2 < x1) then bif decide (Int.ofNat 0 ≤ x2) then Option.bind x0[Int.toNat x2]? fun y => Option.bind (F143 (y, ())) fun r => bif r.1 then some (Sum.inr (Sum.inl (x2, ()))) else some (Sum.inl (x0, x1, IntKind.wrap IntKind.i64 (x2 + Int.ofNat 1), ())) else none else some (Sum.inr (Sum.inr ())) := by kernel_rfl
theorem F166_eq (x0 : List ByteArray) : F166 (x0, ()) = Option.bind (loop B166_0 (x0, Int.ofNat (List.length x0), Int.ofNat 0, ())) fun r => Sum.elim (fun p => some (p.1, ())) (fun p => some (Int.negSucc 0, ())) r := by kernel_rfl
theorem F142_eq (x0 : List ByteArray) : F142 (x0, ()) = Option.bind (F166 (x0, ())) fun r => some (decide (r.1 ≥ Int.ofNat 0), ()) := by kernel_rfl
theorem F105_eq (x0 x1 x2 : Int) (x3 : ByteArray) : F105 (x0, x1, x2, x3, ()) =
 Option.bind (F141 (x0, ())) fun r => bif !r.1 then some (false, ()) else Option.bind (F141 (x1, ())) fun r => bif !r.1 then some (false, ()) else Option.bind (F141 (x2, ())) fun r => bif !r.1 then some (false, ()) else bif decide (Int.ofNat (ByteArray.size x3) > Int.ofNat 40) then some (false, ()) else bif bl x3 == [] then some (true, ()) else Option.bind (F102 (x3, (lit [46]), ())) fun r => Option.bind (F142 (r.1, ())) fun r => some (!r.1, ()) := by kernel_rfl
theorem B80_0_eq (x0 : ByteArray) (x1 : List ByteArray) (x2 x3 x4 x5 x6 : Int) (x7 : ByteArray) (x8 x9 x10 : Int) (x11 : ByteArray) : B80_0 (x0, x1, x2, x3, x4, x5, x6, x7, x8, x9, x10, x11, ()) =
 bif decide (x3 < x2) then bif x3 == Int.ofNat 0 then bif decide (Int.ofNat 0 ≤ x3) then Option.bind x1[Int.toNat x3]? fun y => Option.bind (F103 (y, ())) fun r => bif !r.2.1 then some (Sum.inr (Sum.inl (false, Int.ofNat 0, Int.ofNat 0, Int.ofNat 0, (lit []), ()))) else some (Sum.inl (x0, x1, x2, IntKind.wrap IntKind.i64 (x3 + Int.ofNat 1), x4, x5, x6, x7, r.1, x9, x10, x11, ())) else none else bif x3 == Int.ofNat 1 then bif decide (Int.ofNat 0 ≤ x3) then Option.bind x1[Int.toNat x3]? fun y => Option.bind (F103 (y, ())) fun r => bif !r.2.1 then some (Sum.inr (Sum.inl (false, Int.ofNat 0, Int.ofNat 0, Int.ofNat 0, (lit []), ()))) else some (Sum.inl (x0, x1, x2, IntKind.wrap IntKind.i64 (x3 + Int.ofNat 1), x4, x5, x6, x7, x8, r.1, x10, x11, ())) else none else bif x3 == Int.ofNat 2 then bif decide (Int.ofNat 0 ≤ x3) then Option.bind x1[Int.toNat x3]? fun y => Option.bind (F103 (y, ())) fun r => bif !r.2.1 then some (Sum.inr (Sum.inl (false, Int.ofNat 0, Int.ofNat 0, Int.ofNat 0, (lit []), ()))) else some (Sum.inl (x0, x1, x2, IntKind.wrap IntKind.i64 (x3 + Int.ofNat 1), x4, x5, x6, x7, x8, x9, r.1, x11, ())) else none else none else some (Sum.inr (Sum.inr (x0, x4, x5, x6, x7, x8, x9, x10, x11, ()))) := by kernel_rfl
theorem F80_eq (x0 : ByteArray) : F80 (x0, ()) =
 Option.bind (F100 (x0, (lit [118]), ())) fun r => Option.bind (F101 (r.1, (lit [45]), ())) fun r_1 => Option.bind (F102 (r_1.1, (lit [46]), ())) fun r_2 => bif !r.2.1 then some (Int.ofNat 0, Int.ofNat 0, Int.ofNat 0, (lit []), false, ()) else bif !Int.ofNat (List.length r_2.1) == Int.ofNat 3 then some (Int.ofNat 0, Int.ofNat 0, Int.ofNat 0, (lit []), false, ()) else bif r_1.2.2.1 then bif bl r_1.2.1 == [] then some (Int.ofNat 0, Int.ofNat 0, Int.ofNat 0, (lit []), false, ()) else Option.bind (loop B80_0 (r_1.2.1, r_2.1, Int.ofNat 3, Int.ofNat 0, Int.ofNat 0, Int.ofNat 0, Int.ofNat 0, (lit []), Int.ofNat 0, Int.ofNat 0, Int.ofNat 0, (lit []), ())) fun r => Sum.elim (fun p => some (p.2.1, p.2.2.1, p.2.2.2.1, p.2.2.2.2.1, p.1, ())) (fun p => Option.bind (F104 (p.1, ())) fun r => Option.bind (F105 (p.2.2.2.2.2.1, p.2.2.2.2.2.2.1, p.2.2.2.2.2.2.2.1, r.1, ())) fun r_3 => bif !r_3.1 then some (Int.ofNat 0, Int.ofNat 0, Int.ofNat 0, (lit []), false, ()) else some (p.2.2.2.2.2.1, p.2.2.2.2.2.2.1, p.2.2.2.2.2.2.2.1, r.1, true, ())) r else Option.bind (loop B80_0 (r_1.2.1, r_2.1, Int.ofNat 3, Int.ofNat 0, Int.ofNat 0, Int.ofNat 0, Int.ofNat 0, (lit []), Int.ofNat 0, Int.ofNat 0, Int.ofNat 0, (lit []), ())) fun r => Sum.elim (fun p => some (p.2.1, p.2.2.1, p.2.2.2.1, p.2.2.2.2.1, p.1, ())) (fun p => Option.bind (F104 (p.1, ())) fun r => Option.bind (F105 (p.2.2.2.2.2.1, p.2.2.2.2.2.2.1, p.2.2.2.2.2.2.2.1, r.1, ())) fun r_3 => bif !r_3.1 then some (Int.ofNat 0, Int.ofNat 0, Int.ofNat 0, (lit []), false, ()) else some (p.2.2.2.2.2.1, p.2.2.2.2.2.2.1, p.2.2.2.2.2.2.2.1, r.1, true, ())) r := by kernel_rfl
theorem F56_eq (x0 x1 x2 : Int) (x3 : ByteArray) : F56 (x0, x1, x2, x3, ()) =
 Option.bind (FItoa (x0, ())) fun r => bif fitsS (lit [118]) r.1 then bif fitsS ((lit [118]) ++ r.1) (lit [46]) then Option.bind (FItoa (x1, ())) fun r_1 => bif fitsS ((lit [118]) ++ r.1 ++ (lit [46])) r_1.1 then bif fitsS ((lit [118]) ++ r.1 ++ (lit [46]) ++ r_1.1) (lit [46]) then Option.bind (FItoa (x2, ())) fun r_2 => bif fitsS ((lit [118]) ++ r.1 ++ (lit [46]) ++ r_1.1 ++ (lit [46])) r_2.1 then bif !bl x3 == [] then bif fitsS (lit [45]) x3 then bif fitsS ((lit [118]) ++ r.1 ++ (lit [46]) ++ r_1.1 ++ (lit [46]) ++ r_2.1) ((lit [45]) ++ x3) then some ((lit [118]) ++ r.1 ++ (lit [46]) ++ r_1.1 ++ (lit [46]) ++ r_2.1 ++ ((lit [45]) ++ x3), ()) else none else none else some ((lit [118]) ++ r.1 ++ (lit [46]) ++ r_1.1 ++ (lit [46]) ++ r_2.1, ()) else none else none else none else none else none := by kernel_rfl
theorem F110_eq  : F110 (()) = some () := by kernel_rfl
theorem F88_eq (x0 : Int) : F88 (x0, ()) = Option.bind (F110 ()) fun r => bif decide (x0 < Int.ofNat 0) then none else bif decide (Int.ofNat 0 < x0) then Option.bind (bif decide (Int.ofNat 0 ≤ x0) && decide (x0 ≤ Int.ofNat 140737488355328) then some ([], ()) else none) fun r => some (r.1, ()) else some ([], ()) := by kernel_rfl
theorem F110v1_eq (x0 : List Int) : F110v1 (x0, ()) = some (x0, ()) := by kernel_rfl
theorem F89_eq (x0 : ByteArray) (x1 : List Int) : F89 (x0, x1, ()) = Option.bind (F110v1 (x1, ())) fun r => bif decide (List.length r.1 + ByteArray.size x0 ≤ 140737488355328) then some (Int.ofNat (ByteArray.size x0), r.1 ++ List.map (fun b => Int.ofNat b.1.1.1) (bl x0), ()) else none := by kernel_rfl
theorem F90_eq (x0 : List Int) : F90 (x0, ()) = bif Int.ofNat (List.length x0) == Int.ofNat (List.length x0) && okBytes x0 then some (bstr x0, ()) else none := by kernel_rfl
theorem B57_0_eq (x0 : List ByteArray) (x1 : ByteArray) (x2 : Int) (x3 : List ByteArray) (x4 x5 : Int) : B57_0 (x0, x1, x2, x3, x4, x5, ()) =
 bif decide (x5 < x4) then bif decide (Int.ofNat 0 ≤ x5) then Option.bind x3[Int.toNat x5]? fun y => bif decide (Int.ofNat (ByteArray.size y) > IntKind.wrap IntKind.i64 (Int.ofNat 9223372036854775807 - x2)) then none else some (Sum.inl (x0, x1, IntKind.wrap IntKind.i64 (x2 + Int.ofNat (ByteArray.size y)), x3, x4, IntKind.wrap IntKind.i64 (x5 + Int.ofNat 1), ())) else none else some (Sum.inr (x0, x1, x2, ())) := by kernel_rfl
theorem B57_1_eq (x0 : ByteArray) (x1 : List ByteArray) (x2 x3 : Int) (x4 : List Int) : B57_1 (x0, x1, x2, x3, x4, ()) =
 bif decide (x3 < x2) then bif decide (Int.ofNat 0 ≤ x3) then Option.bind x1[Int.toNat x3]? fun y => Option.bind (F89 (x0, x4, ())) fun r => Option.bind (F89 (y, r.2.1, ())) fun r => some (Sum.inl (x0, x1, x2, IntKind.wrap IntKind.i64 (x3 + Int.ofNat 1), r.2.1, ())) else none else some (Sum.inr (x4, ())) := by kernel_rfl
theorem F57_eq (x0 : List ByteArray) (x1 : ByteArray) : F57 (x0, x1, ()) =
 bif Int.ofNat (List.length x0) == Int.ofNat 0 then some ((lit []), ()) else bif Int.ofNat (List.length x0) == Int.ofNat 1 then Option.bind x0[0]? fun y => some (y, ()) else bif decide (Int.ofNat (ByteArray.size x1) > Int.ofNat 0) then bif !decide (IntKind.wrap IntKind.i64 (Int.ofNat (List.length x0) - Int.ofNat 1) = Int.ofNat 0) then bif decide (Int.ofNat (ByteArray.size x1) ≥ IntKind.wrap IntKind.i64 (Int.tdiv (Int.ofNat 9223372036854775807) (IntKind.wrap IntKind.i64 (Int.ofNat (List.length x0) - Int.ofNat 1)))) then none else Option.bind (loop B57_0 (x0, x1, IntKind.wrap IntKind.i64 (Int.ofNat 0 + IntKind.wrap IntKind.i64 (Int.ofNat (ByteArray.size x1) * IntKind.wrap IntKind.i64 (Int.ofNat (List.length x0) - Int.ofNat 1))), x0, Int.ofNat (List.length x0), Int.ofNat 0, ())) fun r => Option.bind (F88 (r.2.2.1, ())) fun r_1 => Option.bind r.1[0]? fun y => Option.bind (F89 (y, r_1.1, ())) fun r_2 => bif decide (Int.ofNat 1 ≤ Int.ofNat (List.length r.1)) && decide (Int.ofNat (List.length r.1) ≤ Int.ofNat (List.length r.1)) then Option.bind (loop B57_1 (r.2.1, List.drop 1 (List.take (Int.toNat (Int.ofNat (List.length r.1))) r.1), Int.ofNat (List.length (List.drop 1 (List.take (Int.toNat (Int.ofNat (List.length r.1))) r.1))), Int.ofNat 0, r_2.2.1, ())) fun r => Option.bind (F90 (r.1, ())) fun r => some (r.1, ()) else none else none else Option.bind (loop B57_0 (x0, x1, Int.ofNat 0, x0, Int.ofNat (List.length x0), Int.ofNat 0, ())) fun r => Option.bind (F88 (r.2.2.1, ())) fun r_1 => Option.bind r.1[0]? fun y => Option.bind (F89 (y, r_1.1, ())) fun r_2 => bif decide (Int.ofNat 1 ≤ Int.ofNat (List.length r.1)) && decide (Int.ofNat (List.length r.1) ≤ Int.ofNat (List.length r.1)) then Option.bind (loop B57_1 (r.2.1, List.drop 1 (List.take (Int.toNat (Int.ofNat (List.length r.1))) r.1), Int.ofNat (List.length (List.drop 1 (List.take (Int.toNat (Int.ofNat (List.length r.1))) r.1))), Int.ofNat 0, r_2.2.1, ())) fun r => Option.bind (F90 (r.1, ())) fun r => some (r.1, ()) else none := by kernel_rfl
theorem B34_0_eq (x0 : List R7) (x1 x2 : Int) (x3 : List ByteArray) : B34_0 (x0, x1, x2, x3, ()) =
 bif decide (x2 < x1) then bif decide (Int.ofNat 0 ≤ x2) then Option.bind x0[Int.toNat x2]? fun y => Option.bind (F56 (y.1, y.2.1, y.2.2.1, y.2.2.2.1, ())) fun r => bif fitsS (lit [91]) r.1 then bif fitsS ((lit [91]) ++ r.1) (lit [44]) then bif y.2.2.2.2.2.2.2.2.1 then bif decide (Int.ofNat 1 ≤ Int.ofNat (ByteArray.size ((lit [91]) ++ r.1 ++ (lit [44])))) && decide (Int.ofNat (ByteArray.size ((lit [91]) ++ r.1 ++ (lit [44]))) ≤ Int.ofNat (ByteArray.size ((lit [91]) ++ r.1 ++ (lit [44])))) then bif fitsS (lit [40]) (ByteArray.extract ((lit [91]) ++ r.1 ++ (lit [44])) 1 (Int.toNat (Int.ofNat (ByteArray.size ((lit [91]) ++ r.1 ++ (lit [44])))))) then bif y.2.2.2.2.2.2.2.2.2.2.1 then bif fitsS ((lit [40]) ++ ByteArray.extract ((lit [91]) ++ r.1 ++ (lit [44])) 1 (Int.toNat (Int.ofNat (ByteArray.size ((lit [91]) ++ r.1 ++ (lit [44])))))) (lit [41]) then bif decide (List.length x3 + List.length [(lit [40]) ++ ByteArray.extract ((lit [91]) ++ r.1 ++ (lit [44])) 1 (Int.toNat (Int.ofNat (ByteArray.size ((lit [91]) ++ r.1 ++ (lit [44]))))) ++ (lit [41])] ≤ 8796093022208) then some (Sum.inl (x0, x1, IntKind.wrap IntKind.i64 (x2 + Int.ofNat 1), x3 ++ [(lit [40]) ++ ByteArray.extract ((lit [91]) ++ r.1 ++ (lit [44])) 1 (Int.toNat (Int.ofNat (ByteArray.size ((lit [91]) ++ r.1 ++ (lit [44]))))) ++ (lit [41])], ())) else none else none else bif y.2.2.2.2.2.2.2.2.2.1 then Option.bind (F56 (y.2.2.2.2.1, y.2.2.2.2.2.1, y.2.2.2.2.2.2.1, y.2.2.2.2.2.2.2.1, ())) fun r_1 => bif fitsS r_1.1 (lit [93]) then bif fitsS ((lit [40]) ++ ByteArray.extract ((lit [91]) ++ r.1 ++ (lit [44])) 1 (Int.toNat (Int.ofNat (ByteArray.size ((lit [91]) ++ r.1 ++ (lit [44])))))) (r_1.1 ++ (lit [93])) then bif decide (List.length x3 + List.length [(lit [40]) ++ ByteArray.extract ((lit [91]) ++ r.1 ++ (lit [44])) 1 (Int.toNat (Int.ofNat (ByteArray.size ((lit [91]) ++ r.1 ++ (lit [44]))))) ++ (r_1.1 ++ (lit [93]))] ≤ 8796093022208) then some (Sum.inl (x0, x1, IntKind.wrap IntKind.i64 (x2 + Int.ofNat 1), x3 ++ [(lit [40]) ++ ByteArray.extract ((lit [91]) ++ r.1 ++ (lit [44])) 1 (Int.toNat (Int.ofNat (ByteArray.size ((lit [91]) ++ r.1 ++ (lit [44]))))) ++ (r_1.1 ++ (lit [93]))], ())) else none else none else none else Option.bind (F56 (y.2.2.2.2.1, y.2.2.2.2.2.1, y.2.2.2.2.2.2.1, y.2.2.2.2.2.2.2.1, ())) fun r_1 => bif fitsS r_1.1 (lit [41]) then bif fitsS ((lit [40]) ++ ByteArray.extract ((lit [91]) ++ r.1 ++ (lit [44])) 1 (Int.toNat (Int.ofNat (ByteArray.size ((lit [91]) ++ r.1 ++ (lit [44])))))) (r_1.1 ++ (lit [41])) then bif decide (List.length x3 + List.length [(lit [40]) ++ ByteArray.extract ((lit [91]) ++ r.1 ++ (lit [44])) 1 (Int.toNat (Int.ofNat (ByteArray.size ((lit [91]) ++ r.1 ++ (lit [44]))))) ++ (r_1.1 ++ (lit [41]))] ≤ 8796093022208) then some (Sum.inl (x0, x1, IntKind.wrap IntKind.i64 (x2 + Int.ofNat 1), x3 ++ [(lit [40]) ++ ByteArray.extract ((lit [91]) ++ r.1 ++ (lit [44])) 1 (Int.toNat (Int.ofNat (ByteArray.size ((lit [91]) ++ r.1 ++ (lit [44]))))) ++ (r_1.1 ++ (lit [41]))], ())) else none else none else none else none else none else bif y.2.2.2.2.2.2.2.2.2.2.1 then bif fitsS ((lit [91]) ++ r.1 ++ (lit [44])) (lit [41]) then bif decide (List.length x3 + List.length [(lit [91]) ++ r.1 ++ (lit [44]) ++ (lit [41])] ≤ 8796093022208) then some (Sum.inl (x0, x1, IntKind.wrap IntKind.i64 (x2 + Int.ofNat 1), x3 ++ [(lit [91]) ++ r.1 ++ (lit [44]) ++ (lit [41])], ())) else none else none else bif y.2.2.2.2.2.2.2.2.2.1 then Option.bind (F56 (y.2.2.2.2.1, y.2.2.2.2.2.1, y.2.2.2.2.2.2.1, y.2.2.2.2.2.2.2.1, ())) fun r_1 => bif fitsS r_1.1 (lit [93]) then bif fitsS ((lit [91]) ++ r.1 ++ (lit [44])) (r_1.1 ++ (lit [93])) then bif decide (List.length x3 + List.length [(lit [91]) ++ r.1 ++ (lit [44]) ++ (r_1.1 ++ (lit [93]))] ≤ 8796093022208) then some (Sum.inl (x0, x1, IntKind.wrap IntKind.i64 (x2 + Int.ofNat 1), x3 ++ [(lit [91]) ++ r.1 ++ (lit [44]) ++ (r_1.1 ++ (lit [93]))], ())) else none else none else none else Option.bind (F56 (y.2.2.2.2.1, y.2.2.2.2.2.1, y.2.2.2.2.2.2.1, y.2.2.2.2.2.2.2.1, ())) fun r_1 => bif fitsS r_1.1 (lit [41]) then bif fitsS ((lit [91]) ++ r.1 ++ (lit [44])) (r_1.1 ++ (lit [41])) then bif decide (List.length x3 + List.length [(lit [91]) ++ r.1 ++ (lit [44]) ++ (r_1.1 ++ (lit [41]))] ≤ 8796093022208) then some (Sum.inl (x0, x1, IntKind.wrap IntKind.i64 (x2 + Int.ofNat 1), x3 ++ [(lit [91]) ++ r.1 ++ (lit [44]) ++ (r_1.1 ++ (lit [41]))], ())) else none else none else none else none else none else none else some (Sum.inr (x3, ())) := by kernel_rfl
theorem F34_eq (x0 : List R7) : F34 (x0, ()) = bif Int.ofNat (List.length x0) == Int.ofNat 0 then some ((lit [45]), ()) else Option.bind (loop B34_0 (x0, Int.ofNat (List.length x0), Int.ofNat 0, [], ())) fun r => Option.bind (F57 (r.1, (lit [32, 124, 124, 32]), ())) fun r => some (r.1, ()) := by kernel_rfl
theorem F62_eq (x0 : Int) : F62 (x0, ()) = bif decide (x0 ≥ Int.ofNat 48) then some (decide (x0 ≤ Int.ofNat 57), ()) else some (false, ()) := by kernel_rfl
theorem B63_0_eq (x0 : ByteArray) (x1 x2 : Int) : B63_0 (x0, x1, x2, ()) =
 bif decide (x2 < Int.ofNat (ByteArray.size x0)) then bif decide (Int.ofNat 0 ≤ x2) && decide (x2 < Int.ofNat (ByteArray.size x0)) then bif decide (bt x0 x2 < Int.ofNat 48) then some (Sum.inr (Sum.inl (Int.ofNat 0, false, ()))) else bif decide (Int.ofNat 0 ≤ x2) && decide (x2 < Int.ofNat (ByteArray.size x0)) then bif decide (bt x0 x2 > Int.ofNat 57) then some (Sum.inr (Sum.inl (Int.ofNat 0, false, ()))) else bif decide (Int.ofNat 0 ≤ x2) && decide (x2 < Int.ofNat (ByteArray.size x0)) then some (Sum.inl (x0, IntKind.wrap IntKind.i64 (IntKind.wrap IntKind.i64 (Int.ofNat 10 * x1) + IntKind.wrap IntKind.i64 (IntKind.wrap IntKind.u8 (bt x0 x2 - Int.ofNat 48))), IntKind.wrap IntKind.i64 (x2 + Int.ofNat 1), ())) else none else none else none else some (Sum.inr (Sum.inr (x1, ()))) := by kernel_rfl
theorem F63_eq (x0 : ByteArray) : F63 (x0, ()) =
 bif decide (Int.ofNat (ByteArray.size x0) < Int.ofNat 1) then some (Int.ofNat 0, false, ()) else bif decide (Int.ofNat (ByteArray.size x0) > Int.ofNat 9) then some (Int.ofNat 0, false, ()) else bif decide (Int.ofNat (ByteArray.size x0) > Int.ofNat 1) then bif decide (Int.ofNat 0 < Int.ofNat (ByteArray.size x0)) then bif bt x0 (Int.ofNat 0) == Int.ofNat 48 then some (Int.ofNat 0, false, ()) else Option.bind (loop B63_0 (x0, Int.ofNat 0, Int.ofNat 0, ())) fun r => Sum.elim (fun p => some (p.1, p.2.1, ())) (fun p => some (p.1, true, ())) r else none else Option.bind (loop B63_0 (x0, Int.ofNat 0, Int.ofNat 0, ())) fun r => Sum.elim (fun p => some (p.1, p.2.1, ())) (fun p => some (p.1, true, ())) r := by kernel_rfl
theorem B47_0_eq (x0 : ByteArray) (x1 x2 : Int) (x3 : List ByteArray) : B47_0 (x0, x1, x2, x3, ()) =
 bif decide (x2 ≤ Int.ofNat (ByteArray.size x0)) then bif x2 == Int.ofNat (ByteArray.size x0) then bif decide (Int.ofNat 0 ≤ x1) && (decide (x1 ≤ x2) && decide (x2 ≤ Int.ofNat (ByteArray.size x0))) then bif decide (List.length x3 + List.length [ByteArray.extract x0 (Int.toNat x1) (Int.toNat x2)] ≤ 8796093022208) then some (Sum.inl (x0, IntKind.wrap IntKind.i64 (x2 + Int.ofNat 1), IntKind.wrap IntKind.i64 (x2 + Int.ofNat 1), x3 ++ [ByteArray.extract x0 (Int.toNat x1) (Int.toNat x2)], ())) else none else none else bif decide (Int.ofNat 0 ≤ x2) && decide (x2 < Int.ofNat (ByteArray.size x0)) then bif bt x0 x2 == Int.ofNat 46 then bif decide (Int.ofNat 0 ≤ x1) && (decide (x1 ≤ x2) && decide (x2 ≤ Int.ofNat (ByteArray.size x0))) then bif decide (List.length x3 + List.length [ByteArray.extract x0 (Int.toNat x1) (Int.toNat x2)] ≤ 8796093022208) then some (Sum.inl (x0, IntKind.wrap IntKind.i64 (x2 + Int.ofNat 1), IntKind.wrap IntKind.i64 (x2 + Int.ofNat 1), x3 ++ [ByteArray.extract x0 (Int.toNat x1) (Int.toNat x2)], ())) else none else none else some (Sum.inl (x0, x1, IntKind.wrap IntKind.i64 (x2 + Int.ofNat 1), x3, ())) else none else some (Sum.inr (x3, ())) := by kernel_rfl
theorem F47_eq (x0 : ByteArray) : F47 (x0, ()) = Option.bind (loop B47_0 (x0, Int.ofNat 0, Int.ofNat 0, [], ())) fun r => some (r.1, ()) := by kernel_rfl
theorem F112_eq (x0 : Int) : F112 (x0, ()) =
 bif decide (x0 ≥ Int.ofNat 97) then bif decide (x0 ≤ Int.ofNat 122) then some (true, ()) else bif decide (x0 ≥ Int.ofNat 65) then bif decide (x0 ≤ Int.ofNat 90) then some (true, ()) else some (x0 == Int.ofNat 45, ()) else some (x0 == Int.ofNat 45, ()) else bif decide (x0 ≥ Int.ofNat 65) then bif decide (x0 ≤ Int.ofNat 90) then some (true, ()) else some (x0 == Int.ofNat 45, ()) else some (x0 == Int.ofNat 45, ()) := by kernel_rfl
theorem B75_0_eq (x0 : ByteArray) (x1 : Int) : B75_0 (x0, x1, ()) =
 bif decide (x1 < Int.ofNat (ByteArray.size x0)) then bif decide (Int.ofNat 0 ≤ x1) && decide (x1 < Int.ofNat (ByteArray.size x0)) then Option.bind (F62 (bt x0 x1, ())) fun r => bif !r.1 then some (Sum.inr (Sum.inl (false, ()))) else some (Sum.inl (x0, IntKind.wrap IntKind.i64 (x1 + Int.ofNat 1), ())) else none else some (Sum.inr (Sum.inr (x0, ()))) := by kernel_rfl
theorem F75_eq (x0 : ByteArray) : F75 (x0, ()) = Option.bind (loop B75_0 (x0, Int.ofNat 0, ())) fun r => Sum.elim (fun p => some (p.1, ())) (fun p => some (!bl p.1 == [], ())) r := by kernel_rfl
theorem B91_0_eq (x0 : ByteArray) (x1 : Int) : B91_0 (x0, x1, ()) =
 bif decide (x1 < Int.ofNat (ByteArray.size x0)) then bif decide (Int.ofNat 0 ≤ x1) && decide (x1 < Int.ofNat (ByteArray.size x0)) then Option.bind (F62 (bt x0 x1, ())) fun r => bif !r.1 then bif decide (Int.ofNat 0 ≤ x1) && decide (x1 < Int.ofNat (ByteArray.size x0)) then Option.bind (F112 (bt x0 x1, ())) fun r => bif !r.1 then some (Sum.inr (Sum.inl (false, ()))) else some (Sum.inl (x0, IntKind.wrap IntKind.i64 (x1 + Int.ofNat 1), ())) else none else some (Sum.inl (x0, IntKind.wrap IntKind.i64 (x1 + Int.ofNat 1), ())) else none else some (Sum.inr (Sum.inr ())) := by kernel_rfl
theorem F91_eq (x0 : ByteArray) : F91 (x0, ()) =
 bif bl x0 == [] then some (false, ()) else Option.bind (F75 (x0, ())) fun r => bif r.1 then bif decide (Int.ofNat (ByteArray.size x0) > Int.ofNat 1) then bif decide (Int.ofNat 0 < Int.ofNat (ByteArray.size x0)) then bif bt x0 (Int.ofNat 0) == Int.ofNat 48 then some (false, ()) else Option.bind (loop B91_0 (x0, Int.ofNat 0, ())) fun r => Sum.elim (fun p => some (p.1, ())) (fun p => some (true, ())) r else none else Option.bind (loop B91_0 (x0, Int.ofNat 0, ())) fun r => Sum.elim (fun p => some (p.1, ())) (fun p => some (true, ())) r else Option.bind (loop B91_0 (x0, Int.ofNat 0, ())) fun r => Sum.elim (fun p => some (p.1, ())) (fun p => some (true, ())) r := by kernel_rfl
theorem B64_0_eq (x0 : List ByteArray) (x1 : Int) : B64_0 (x0, x1, ()) =
 bif decide (x1 < Int.ofNat (List.length x0)) then bif decide (Int.ofNat 0 ≤ x1) then Option.bind x0[Int.toNat x1]? fun y => Option.bind (F91 (y, ())) fun r => bif !r.1 then some (Sum.inr (Sum.inl (false, ()))) else some (Sum.inl (x0, IntKind.wrap IntKind.i64 (x1 + Int.ofNat 1), ())) else none else some (Sum.inr (Sum.inr ())) := by kernel_rfl
theorem F64_eq (x0 x1 x2 : Int) (x3 : ByteArray) : F64 (x0, x1, x2, x3, ()) =
 bif decide (x0 < Int.ofNat 0) then some (false, ()) else bif decide (x1 < Int.ofNat 0) then some (false, ()) else bif decide (x2 < Int.ofNat 0) then some (false, ()) else bif decide ((bif decide (x2 > bif decide (x1 > x0) then x1 else x0) then x2 else bif decide (x1 > x0) then x1 else x0) > Int.ofNat 999999) then some (false, ()) else bif decide (Int.ofNat (ByteArray.size x3) > Int.ofNat 40) then some (false, ()) else bif bl x3 == [] then some (true, ()) else Option.bind (F47 (x3, ())) fun r => Option.bind (loop B64_0 (r.1, Int.ofNat 0, ())) fun r => Sum.elim (fun p => some (p.1, ())) (fun p => some (true, ())) r := by kernel_rfl
theorem B37_0_eq (x0 : ByteArray) (x1 x2 x3 : Int) (x4 : ByteArray) (x5 x6 x7 x8 : Int) (x9 : Bool) (x10 x11 x12 : Int) (x13 : ByteArray) (x14 x15 x16 : Int) : B37_0 (x0, x1, x2, x3, x4, x5, x6, x7, x8, x9, x10, x11, x12, x13, x14, x15, x16, ()) =
 bif decide (x1 < Int.ofNat (ByteArray.size x0)) then bif decide (Int.ofNat 0 ≤ x1) && decide (x1 < Int.ofNat (ByteArray.size x0)) then Option.bind (F62 (bt x0 x1, ())) fun r => bif r.1 then some (Sum.inl (x0, IntKind.wrap IntKind.i64 (x1 + Int.ofNat 1), x2, x3, x4, x5, x6, x7, x8, x9, x10, x11, x12, x13, x14, x15, x16, ())) else some (Sum.inr (x0, x1, x2, x3, x4, x5, x6, x7, x8, x9, x10, x11, x12, x13, x14, x15, x16, ())) else none else some (Sum.inr (x0, x1, x2, x3, x4, x5, x6, x7, x8, x9, x10, x11, x12, x13, x14, x15, x16, ())) := by kernel_rfl
theorem B37_1_eq (x0 : ByteArray) (x1 x2 x3 x4 x5 : Int) (x6 : ByteArray) (x7 x8 x9 : Int) : B37_1 (x0, x1, x2, x3, x4, x5, x6, x7, x8, x9, ()) =
 bif decide (x2 < Int.ofNat 3) then bif decide (x1 ≥ Int.ofNat (ByteArray.size x0)) then some (Sum.inr (Sum.inl (false, Int.ofNat 0, Int.ofNat 0, Int.ofNat 0, (lit []), ()))) else bif decide (Int.ofNat 0 ≤ x1) && decide (x1 < Int.ofNat (ByteArray.size x0)) then bif decide (Int.ofNat 0 ≤ x2) && decide (x2 < Int.ofNat 3) then bif !bt x0 x1 == bt (lit [118, 46, 46]) x2 then some (Sum.inr (Sum.inl (false, Int.ofNat 0, Int.ofNat 0, Int.ofNat 0, (lit []), ()))) else Option.bind (loop B37_0 (x0, IntKind.wrap IntKind.i64 (x1 + Int.ofNat 1), x2, IntKind.wrap IntKind.i64 (x1 + Int.ofNat 1), x0, x1, bt x0 x1, x2, bt (lit [118, 46, 46]) x2, !bt x0 x1 == bt (lit [118, 46, 46]) x2, x3, x4, x5, x6, x7, x8, x9, ())) fun r => bif decide (Int.ofNat 0 ≤ r.2.2.2.1) && (decide (r.2.2.2.1 ≤ r.2.1) && decide (r.2.1 ≤ Int.ofNat (ByteArray.size r.1))) then Option.bind (F63 (ByteArray.extract r.1 (Int.toNat r.2.2.2.1) (Int.toNat r.2.1), ())) fun r_1 => bif !r_1.2.1 then some (Sum.inr (Sum.inl (false, Int.ofNat 0, Int.ofNat 0, Int.ofNat 0, (lit []), ()))) else bif r.2.2.1 == Int.ofNat 0 then some (Sum.inl (r.1, r.2.1, IntKind.wrap IntKind.i64 (r.2.2.1 + Int.ofNat 1), r.2.2.2.2.2.2.2.2.2.2.1, r.2.2.2.2.2.2.2.2.2.2.2.1, r.2.2.2.2.2.2.2.2.2.2.2.2.1, r.2.2.2.2.2.2.2.2.2.2.2.2.2.1, r_1.1, r.2.2.2.2.2.2.2.2.2.2.2.2.2.2.2.1, r.2.2.2.2.2.2.2.2.2.2.2.2.2.2.2.2.1, ())) else bif r.2.2.1 == Int.ofNat 1 then some (Sum.inl (r.1, r.2.1, IntKind.wrap IntKind.i64 (r.2.2.1 + Int.ofNat 1), r.2.2.2.2.2.2.2.2.2.2.1, r.2.2.2.2.2.2.2.2.2.2.2.1, r.2.2.2.2.2.2.2.2.2.2.2.2.1, r.2.2.2.2.2.2.2.2.2.2.2.2.2.1, r.2.2.2.2.2.2.2.2.2.2.2.2.2.2.1, r_1.1, r.2.2.2.2.2.2.2.2.2.2.2.2.2.2.2.2.1, ())) else bif r.2.2.1 == Int.ofNat 2 then some (Sum.inl (r.1, r.2.1, IntKind.wrap IntKind.i64 (r.2.2.1 + Int.ofNat 1), r.2.2.2.2.2.2.2.2.2.2.1, r.2.2.2.2.2.2.2.2.2.2.2.1, r.2.2.2.2.2.2.2.2.2.2.2.2.1, r.2.2.2.2.2.2.2.2.2.2.2.2.2.1, r.2.2.2.2.2.2.2.2.2.2.2.2.2.2.1, r.2.2.2.2.2.2.2.2.2.2.2.2.2.2.2.1, r_1.1, ())) else none else none else none else none else some (Sum.inr (Sum.inr (x0, x1, x3, x4, x5, x6, x7, x8, x9, ()))) := by kernel_rfl
theorem F37_eq (x0 : ByteArray) : F37 (x0, ()) =
 Option.bind (loop B37_1 (x0, Int.ofNat 0, Int.ofNat 0, Int.ofNat 0, Int.ofNat 0, Int.ofNat 0, (lit []), Int.ofNat 0, Int.ofNat 0, Int.ofNat 0, ())) fun r => Sum.elim (fun p => some (p.2.1, p.2.2.1, p.2.2.2.1, p.2.2.2.2.1, p.1, ())) (fun p => bif decide (p.2.1 < Int.ofNat (ByteArray.size p.1)) then bif decide (Int.ofNat 0 ≤ p.2.1) && decide (p.2.1 < Int.ofNat (ByteArray.size p.1)) then bif !bt p.1 p.2.1 == Int.ofNat 45 then some (Int.ofNat 0, Int.ofNat 0, Int.ofNat 0, (lit []), false, ()) else bif IntKind.wrap IntKind.i64 (p.2.1 + Int.ofNat 1) == Int.ofNat (ByteArray.size p.1) then some (Int.ofNat 0, Int.ofNat 0, Int.ofNat 0, (lit []), false, ()) else bif decide (Int.ofNat 0 ≤ IntKind.wrap IntKind.i64 (p.2.1 + Int.ofNat 1)) && (decide (IntKind.wrap IntKind.i64 (p.2.1 + Int.ofNat 1) ≤ Int.ofNat (ByteArray.size p.1)) && decide (Int.ofNat (ByteArray.size p.1) ≤ Int.ofNat (ByteArray.size p.1))) then Option.bind (F64 (p.2.2.2.2.2.2.1, p.2.2.2.2.2.2.2.1, p.2.2.2.2.2.2.2.2.1, ByteArray.extract p.1 (Int.toNat (IntKind.wrap IntKind.i64 (p.2.1 + Int.ofNat 1))) (Int.toNat (Int.ofNat (ByteArray.size p.1))), ())) fun r => bif !r.1 then some (Int.ofNat 0, Int.ofNat 0, Int.ofNat 0, (lit []), false, ()) else some (p.2.2.2.2.2.2.1, p.2.2.2.2.2.2.2.1, p.2.2.2.2.2.2.2.2.1, ByteArray.extract p.1 (Int.toNat (IntKind.wrap IntKind.i64 (p.2.1 + Int.ofNat 1))) (Int.toNat (Int.ofNat (ByteArray.size p.1))), true, ()) else none else none else Option.bind (F64 (p.2.2.2.2.2.2.1, p.2.2.2.2.2.2.2.1, p.2.2.2.2.2.2.2.2.1, (lit []), ())) fun r => bif !r.1 then some (Int.ofNat 0, Int.ofNat 0, Int.ofNat 0, (lit []), false, ()) else some (p.2.2.2.2.2.2.1, p.2.2.2.2.2.2.2.1, p.2.2.2.2.2.2.2.2.1, (lit []), true, ())) r := by kernel_rfl
theorem F46_eq (x0 x1 : Int) : F46 (x0, x1, ()) = bif decide (x0 < x1) then some (Int.negSucc 0, ()) else bif decide (x0 > x1) then some (Int.ofNat 1, ()) else some (Int.ofNat 0, ()) := by kernel_rfl
theorem F48_eq (x0 x1 : ByteArray) : F48 (x0, x1, ()) =
 Option.bind (F75 (x0, ())) fun r => Option.bind (F75 (x1, ())) fun r_1 => bif r.1 then bif r_1.1 then bif !Int.ofNat (ByteArray.size x0) == Int.ofNat (ByteArray.size x1) then Option.bind (F46 (Int.ofNat (ByteArray.size x0), Int.ofNat (ByteArray.size x1), ())) fun r => some (r.1, ()) else bif !r.1 == r_1.1 then bif r.1 then some (Int.negSucc 0, ()) else some (Int.ofNat 1, ()) else bif Op.bytesLess (bl x0) (bl x1) then some (Int.negSucc 0, ()) else bif !(Op.bytesLess (bl x0) (bl x1) || bl x0 == bl x1) then some (Int.ofNat 1, ()) else some (Int.ofNat 0, ()) else bif !r.1 == r_1.1 then bif r.1 then some (Int.negSucc 0, ()) else some (Int.ofNat 1, ()) else bif Op.bytesLess (bl x0) (bl x1) then some (Int.negSucc 0, ()) else bif !(Op.bytesLess (bl x0) (bl x1) || bl x0 == bl x1) then some (Int.ofNat 1, ()) else some (Int.ofNat 0, ()) else bif !r.1 == r_1.1 then bif r.1 then some (Int.negSucc 0, ()) else some (Int.ofNat 1, ()) else bif Op.bytesLess (bl x0) (bl x1) then some (Int.negSucc 0, ()) else bif !(Op.bytesLess (bl x0) (bl x1) || bl x0 == bl x1) then some (Int.ofNat 1, ()) else some (Int.ofNat 0, ()) := by kernel_rfl
theorem B26_0_eq (x0 x1 x2 x3 : Int) (x4 : ByteArray) (x5 x6 x7 : Int) (x8 : ByteArray) (x9 : List Int) : B26_0 (x0, x1, x2, x3, x4, x5, x6, x7, x8, x9, ()) =
 bif decide (x0 < Int.ofNat 3) then bif decide (Int.ofNat 0 ≤ x0) then Option.bind x9[Int.toNat x0]? fun y => bif !y == Int.ofNat 0 then bif decide (Int.ofNat 0 ≤ x0) then Option.bind x9[Int.toNat x0]? fun y => some (Sum.inr (Sum.inl (y, ()))) else none else some (Sum.inl (IntKind.wrap IntKind.i64 (x0 + Int.ofNat 1), x1, x2, x3, x4, x5, x6, x7, x8, x9, ())) else none else some (Sum.inr (Sum.inr (x1, x2, x3, x4, x5, x6, x7, x8, ()))) := by kernel_rfl
theorem B26_1_eq (x0 x1 : List ByteArray) (x2 : Int) : B26_1 (x0, x1, x2, ()) =
 bif decide (x2 < Int.ofNat (List.length x0)) then bif decide (x2 < Int.ofNat (List.length x1)) then bif decide (Int.ofNat 0 ≤ x2) then Option.bind x0[Int.toNat x2]? fun y => bif decide (Int.ofNat 0 ≤ x2) then Option.bind x1[Int.toNat x2]? fun y_1 => Option.bind (F48 (y, y_1, ())) fun r => bif !r.1 == Int.ofNat 0 then some (Sum.inr (Sum.inl (r.1, ()))) else some (Sum.inl (x0, x1, IntKind.wrap IntKind.i64 (x2 + Int.ofNat 1), ())) else none else none else some (Sum.inr (Sum.inr (x0, x1, ()))) else some (Sum.inr (Sum.inr (x0, x1, ()))) := by kernel_rfl
theorem F26_eq (x0 x1 x2 : Int) (x3 : ByteArray) (x4 x5 x6 : Int) (x7 : ByteArray) : F26 (x0, x1, x2, x3, x4, x5, x6, x7, ()) =
 Option.bind (F46 (x0, x4, ())) fun r => Option.bind (F46 (x1, x5, ())) fun r_1 => Option.bind (F46 (x2, x6, ())) fun r_2 => Option.bind (loop B26_0 (Int.ofNat 0, x0, x1, x2, x3, x4, x5, x6, x7, [r.1, r_1.1, r_2.1], ())) fun r => Sum.elim (fun p => some (p.1, ())) (fun p => bif bl p.2.2.2.1 == [] then Option.bind (F46 (Int.ofNat (ByteArray.size p.2.2.2.2.2.2.2.1), Int.ofNat (ByteArray.size p.2.2.2.1), ())) fun r => some (IntKind.wrap IntKind.i64 (r.1 * bif decide (IntKind.wrap IntKind.i64 (Int.ofNat (ByteArray.size p.2.2.2.1) + Int.ofNat (ByteArray.size p.2.2.2.2.2.2.2.1)) < Int.ofNat 1) then IntKind.wrap IntKind.i64 (Int.ofNat (ByteArray.size p.2.2.2.1) + Int.ofNat (ByteArray.size p.2.2.2.2.2.2.2.1)) else Int.ofNat 1), ()) else bif bl p.2.2.2.2.2.2.2.1 == [] then Option.bind (F46 (Int.ofNat (ByteArray.size p.2.2.2.2.2.2.2.1), Int.ofNat (ByteArray.size p.2.2.2.1), ())) fun r => some (IntKind.wrap IntKind.i64 (r.1 * bif decide (IntKind.wrap IntKind.i64 (Int.ofNat (ByteArray.size p.2.2.2.1) + Int.ofNat (ByteArray.size p.2.2.2.2.2.2.2.1)) < Int.ofNat 1) then IntKind.wrap IntKind.i64 (Int.ofNat (ByteArray.size p.2.2.2.1) + Int.ofNat (ByteArray.size p.2.2.2.2.2.2.2.1)) else Int.ofNat 1), ()) else Option.bind (F47 (p.2.2.2.1, ())) fun r => Option.bind (F47 (p.2.2.2.2.2.2.2.1, ())) fun r_3 => Option.bind (loop B26_1 (r.1, r_3.1, Int.ofNat 0, ())) fun r => Sum.elim (fun p => some (p.1, ())) (fun p => Option.bind (F46 (Int.ofNat (List.length p.1), Int.ofNat (List.length p.2.1), ())) fun r => some (r.1, ())) r) r := by kernel_rfl
theorem F58_eq (x0 x1 x2 : Int) (x3 : ByteArray) (x4 x5 x6 : Int) (x7 : ByteArray) (x8 x9 x10 : Bool) : F58 (x0, x1, x2, x3, x4, x5, x6, x7, x8, x9, x10, ()) =
 Option.bind (F26 (x4, x5, x6, x7, x0, x1, x2, x3, ())) fun r => bif !x10 then bif decide (r.1 < Int.ofNat 0) then some (true, ()) else bif r.1 == Int.ofNat 0 then bif x8 then some (true, ()) else some (!x9, ()) else some (false, ()) else some (false, ()) := by kernel_rfl
theorem F59_eq (x0 x1 x2 : Int) (x3 : ByteArray) (x4 x5 x6 : Int) (x7 : ByteArray) (x8 x9 x10 : Bool) (x11 x12 x13 : Int) (x14 : ByteArray) (x15 x16 x17 : Int) (x18 : ByteArray) (x19 x20 x21 : Bool) : F59 (x0, x1, x2, x3, x4, x5, x6, x7, x8, x9, x10, x11, x12, x13, x14, x15, x16, x17, x18, x19, x20, x21, ()) =
 Option.bind (F26 (x0, x1, x2, x3, x11, x12, x13, x14, ())) fun r => bif decide (r.1 < Int.ofNat 0) then some (true, ()) else bif r.1 == Int.ofNat 0 then bif !x8 then some (x19, ()) else some (false, ()) else some (false, ()) := by kernel_rfl
theorem F60_eq (x0 x1 x2 : Int) (x3 : ByteArray) (x4 x5 x6 : Int) (x7 : ByteArray) (x8 x9 x10 : Bool) (x11 x12 x13 : Int) (x14 : ByteArray) (x15 x16 x17 : Int) (x18 : ByteArray) (x19 x20 x21 : Bool) : F60 (x0, x1, x2, x3, x4, x5, x6, x7, x8, x9, x10, x11, x12, x13, x14, x15, x16, x17, x18, x19, x20, x21, ()) =
 bif x10 then some (false, ()) else Option.bind (F26 (x4, x5, x6, x7, x11, x12, x13, x14, ())) fun r => bif decide (r.1 < Int.ofNat 0) then some (true, ()) else bif r.1 == Int.ofNat 0 then bif !x9 then some (x19, ()) else some (false, ()) else some (false, ()) := by kernel_rfl
theorem F61_eq (x0 x1 x2 : Int) (x3 : ByteArray) (x4 x5 x6 : Int) (x7 : ByteArray) (x8 x9 x10 : Bool) (x11 x12 x13 : Int) (x14 : ByteArray) (x15 x16 x17 : Int) (x18 : ByteArray) (x19 x20 x21 : Bool) : F61 (x0, x1, x2, x3, x4, x5, x6, x7, x8, x9, x10, x11, x12, x13, x14, x15, x16, x17, x18, x19, x20, x21, ()) =
 bif x10 then bif x10 then some (!x21, ()) else some (false, ()) else bif x21 then bif x10 then some (!x21, ()) else some (false, ()) else Option.bind (F26 (x4, x5, x6, x7, x15, x16, x17, x18, ())) fun r => bif decide (r.1 > Int.ofNat 0) then some (true, ()) else bif r.1 == Int.ofNat 0 then bif x9 then some (!x20, ()) else some (false, ()) else some (false, ()) := by kernel_rfl
theorem B36_0_eq (x0 : List R7) (x1 x2 : Int) (x3 : List R7) (x4 x5 x6 : Int) (x7 : ByteArray) (x8 x9 x10 : Int) (x11 : ByteArray) (x12 x13 x14 : Bool) : B36_0 (x0, x1, x2, x3, x4, x5, x6, x7, x8, x9, x10, x11, x12, x13, x14, ()) =
 bif decide (x2 > Int.ofNat 0) then bif decide (Int.ofNat 0 ≤ IntKind.wrap IntKind.i64 (x2 - Int.ofNat 1)) then Option.bind x3[Int.toNat (IntKind.wrap IntKind.i64 (x2 - Int.ofNat 1))]? fun y => Option.bind (F59 (x4, x5, x6, x7, x8, x9, x10, x11, x12, x13, x14, y.1, y.2.1, y.2.2.1, y.2.2.2.1, y.2.2.2.2.1, y.2.2.2.2.2.1, y.2.2.2.2.2.2.1, y.2.2.2.2.2.2.2.1, y.2.2.2.2.2.2.2.2.1, y.2.2.2.2.2.2.2.2.2.1, y.2.2.2.2.2.2.2.2.2.2.1, ())) fun r => bif r.1 then some (Sum.inl (x0, x1, IntKind.wrap IntKind.i64 (x2 - Int.ofNat 1), x3, x4, x5, x6, x7, x8, x9, x10, x11, x12, x13, x14, ())) else some (Sum.inr (x0, x1, x2, x3, x4, x5, x6, x7, x8, x9, x10, x11, x12, x13, x14, ())) else none else some (Sum.inr (x0, x1, x2, x3, x4, x5, x6, x7, x8, x9, x10, x11, x12, x13, x14, ())) := by kernel_rfl
theorem B36_1_eq (x0 : List R7) (x1 : Int) (x2 : List R7) : B36_1 (x0, x1, x2, ()) =
 bif decide (x1 < Int.ofNat (List.length x0)) then bif decide (Int.ofNat 0 ≤ x1) then Option.bind x0[Int.toNat x1]? fun y => Option.bind (F58 (y.1, y.2.1, y.2.2.1, y.2.2.2.1, y.2.2.2.2.1, y.2.2.2.2.2.1, y.2.2.2.2.2.2.1, y.2.2.2.2.2.2.2.1, y.2.2.2.2.2.2.2.2.1, y.2.2.2.2.2.2.2.2.2.1, y.2.2.2.2.2.2.2.2.2.2.1, ())) fun r => bif r.1 then some (Sum.inl (x0, IntKind.wrap IntKind.i64 (x1 + Int.ofNat 1), x2, ())) else bif y.2.2.2.2.2.2.2.2.2.2.1 then Option.bind (loop B36_0 (x0, x1, Int.ofNat (List.length x2), x2, y.1, y.2.1, y.2.2.1, y.2.2.2.1, Int.ofNat 0, Int.ofNat 0, Int.ofNat 0, (lit []), y.2.2.2.2.2.2.2.2.1, false, y.2.2.2.2.2.2.2.2.2.2.1, ())) fun r => bif decide (Int.ofNat 0 ≤ r.2.2.1) && decide (r.2.2.1 ≤ Int.ofNat (List.length r.2.2.2.1)) then bif decide (0 + List.length (List.drop 0 (List.take (Int.toNat r.2.2.1) r.2.2.2.1)) ≤ 1599289640401) then bif decide (List.length ([] ++ List.drop 0 (List.take (Int.toNat r.2.2.1) r.2.2.2.1)) + List.length [(r.2.2.2.2.1, r.2.2.2.2.2.1, r.2.2.2.2.2.2.1, r.2.2.2.2.2.2.2.1, r.2.2.2.2.2.2.2.2.1, r.2.2.2.2.2.2.2.2.2.1, r.2.2.2.2.2.2.2.2.2.2.1, r.2.2.2.2.2.2.2.2.2.2.2.1, r.2.2.2.2.2.2.2.2.2.2.2.2.1, r.2.2.2.2.2.2.2.2.2.2.2.2.2.1, r.2.2.2.2.2.2.2.2.2.2.2.2.2.2.1, ())] ≤ 1599289640401) then bif decide (Int.ofNat 0 ≤ r.2.2.1) && (decide (r.2.2.1 ≤ Int.ofNat (List.length r.2.2.2.1)) && decide (Int.ofNat (List.length r.2.2.2.1) ≤ Int.ofNat (List.length r.2.2.2.1))) then bif decide (List.length ([] ++ List.drop 0 (List.take (Int.toNat r.2.2.1) r.2.2.2.1) ++ [(r.2.2.2.2.1, r.2.2.2.2.2.1, r.2.2.2.2.2.2.1, r.2.2.2.2.2.2.2.1, r.2.2.2.2.2.2.2.2.1, r.2.2.2.2.2.2.2.2.2.1, r.2.2.2.2.2.2.2.2.2.2.1, r.2.2.2.2.2.2.2.2.2.2.2.1, r.2.2.2.2.2.2.2.2.2.2.2.2.1, r.2.2.2.2.2.2.2.2.2.2.2.2.2.1, r.2.2.2.2.2.2.2.2.2.2.2.2.2.2.1, ())]) + List.length (List.drop (Int.toNat r.2.2.1) (List.take (Int.toNat (Int.ofNat (List.length r.2.2.2.1))) r.2.2.2.1)) ≤ 1599289640401) then some (Sum.inl (r.1, IntKind.wrap IntKind.i64 (r.2.1 + Int.ofNat 1), [] ++ List.drop 0 (List.take (Int.toNat r.2.2.1) r.2.2.2.1) ++ [(r.2.2.2.2.1, r.2.2.2.2.2.1, r.2.2.2.2.2.2.1, r.2.2.2.2.2.2.2.1, r.2.2.2.2.2.2.2.2.1, r.2.2.2.2.2.2.2.2.2.1, r.2.2.2.2.2.2.2.2.2.2.1, r.2.2.2.2.2.2.2.2.2.2.2.1, r.2.2.2.2.2.2.2.2.2.2.2.2.1, r.2.2.2.2.2.2.2.2.2.2.2.2.2.1, r.2.2.2.2.2.2.2.2.2.2.2.2.2.2.1, ())] ++ List.drop (Int.toNat r.2.2.1) (List.take (Int.toNat (Int.ofNat (List.length r.2.2.2.1))) r.2.2.2.1), ())) else none else none else none else none else none else Option.bind (loop B36_0 (x0, x1, Int.ofNat (List.length x2), x2, y.1, y.2.1, y.2.2.1, y.2.2.2.1, y.2.2.2.2.1, y.2.2.2.2.2.1, y.2.2.2.2.2.2.1, y.2.2.2.2.2.2.2.1, y.2.2.2.2.2.2.2.2.1, y.2.2.2.2.2.2.2.2.2.1, y.2.2.2.2.2.2.2.2.2.2.1, ())) fun r => bif decide (Int.ofNat 0 ≤ r.2.2.1) && decide (r.2.2.1 ≤ Int.ofNat (List.length r.2.2.2.1)) then bif decide (0 + List.length (List.drop 0 (List.take (Int.toNat r.2.2.1) r.2.2.2.1)) ≤ 1599289640401) then bif decide (List.length ([] ++ List.drop 0 (List.take (Int.toNat r.2.2.1) r.2.2.2.1)) + List.length [(r.2.2.2.2.1, r.2.2.2.2.2.1, r.2.2.2.2.2.2.1, r.2.2.2.2.2.2.2.1, r.2.2.2.2.2.2.2.2.1, r.2.2.2.2.2.2.2.2.2.1, r.2.2.2.2.2.2.2.2.2.2.1, r.2.2.2.2.2.2.2.2.2.2.2.1, r.2.2.2.2.2.2.2.2.2.2.2.2.1, r.2.2.2.2.2.2.2.2.2.2.2.2.2.1, r.2.2.2.2.2.2.2.2.2.2.2.2.2.2.1, ())] ≤ 1599289640401) then bif decide (Int.ofNat 0 ≤ r.2.2.1) && (decide (r.2.2.1 ≤ Int.ofNat (List.length r.2.2.2.1)) && decide (Int.ofNat (List.length r.2.2.2.1) ≤ Int.ofNat (List.length r.2.2.2.1))) then bif decide (List.length ([] ++ List.drop 0 (List.take (Int.toNat r.2.2.1) r.2.2.2.1) ++ [(r.2.2.2.2.1, r.2.2.2.2.2.1, r.2.2.2.2.2.2.1, r.2.2.2.2.2.2.2.1, r.2.2.2.2.2.2.2.2.1, r.2.2.2.2.2.2.2.2.2.1, r.2.2.2.2.2.2.2.2.2.2.1, r.2.2.2.2.2.2.2.2.2.2.2.1, r.2.2.2.2.2.2.2.2.2.2.2.2.1, r.2.2.2.2.2.2.2.2.2.2.2.2.2.1, r.2.2.2.2.2.2.2.2.2.2.2.2.2.2.1, ())]) + List.length (List.drop (Int.toNat r.2.2.1) (List.take (Int.toNat (Int.ofNat (List.length r.2.2.2.1))) r.2.2.2.1)) ≤ 1599289640401) then some (Sum.inl (r.1, IntKind.wrap IntKind.i64 (r.2.1 + Int.ofNat 1), [] ++ List.drop 0 (List.take (Int.toNat r.2.2.1) r.2.2.2.1) ++ [(r.2.2.2.2.1, r.2.2.2.2.2.1, r.2.2.2.2.2.2.1, r.2.2.2.2.2.2.2.1, r.2.2.2.2.2.2.2.2.1, r.2.2.2.2.2.2.2.2.2.1, r.2.2.2.2.2.2.2.2.2.2.1, r.2.2.2.2.2.2.2.2.2.2.2.1, r.2.2.2.2.2.2.2.2.2.2.2.2.1, r.2.2.2.2.2.2.2.2.2.2.2.2.2.1, r.2.2.2.2.2.2.2.2.2.2.2.2.2.2.1, ())] ++ List.drop (Int.toNat r.2.2.1) (List.take (Int.toNat (Int.ofNat (List.length r.2.2.2.1))) r.2.2.2.1), ())) else none else none else none else none else none else none else some (Sum.inr (x2, ())) := by kernel_rfl
theorem B36_2_eq (x0 : Int) (x1 x2 : List R7) : B36_2 (x0, x1, x2, ()) =
 bif decide (x0 < Int.ofNat (List.length x1)) then bif decide (IntKind.wrap IntKind.i64 (Int.ofNat (List.length x2) - Int.ofNat 1) < Int.ofNat 0) then bif decide (Int.ofNat 0 ≤ x0) then Option.bind x1[Int.toNat x0]? fun y => bif decide (List.length x2 + List.length [(y.1, y.2.1, y.2.2.1, y.2.2.2.1, y.2.2.2.2.1, y.2.2.2.2.2.1, y.2.2.2.2.2.2.1, y.2.2.2.2.2.2.2.1, y.2.2.2.2.2.2.2.2.1, y.2.2.2.2.2.2.2.2.2.1, y.2.2.2.2.2.2.2.2.2.2.1, ())] ≤ 1599289640401) then some (Sum.inl (IntKind.wrap IntKind.i64 (x0 + Int.ofNat 1), x1, x2 ++ [(y.1, y.2.1, y.2.2.1, y.2.2.2.1, y.2.2.2.2.1, y.2.2.2.2.2.1, y.2.2.2.2.2.2.1, y.2.2.2.2.2.2.2.1, y.2.2.2.2.2.2.2.2.1, y.2.2.2.2.2.2.2.2.2.1, y.2.2.2.2.2.2.2.2.2.2.1, ())], ())) else none else none else bif decide (Int.ofNat 0 ≤ IntKind.wrap IntKind.i64 (Int.ofNat (List.length x2) - Int.ofNat 1)) && decide (IntKind.wrap IntKind.i64 (Int.ofNat (List.length x2) - Int.ofNat 1) < Int.ofNat (List.length x2)) then Option.bind x2[Int.toNat (IntKind.wrap IntKind.i64 (Int.ofNat (List.length x2) - Int.ofNat 1))]? fun y => bif decide (Int.ofNat 0 ≤ x0) then Option.bind x1[Int.toNat x0]? fun y_1 => Option.bind (F60 (y.1, y.2.1, y.2.2.1, y.2.2.2.1, y.2.2.2.2.1, y.2.2.2.2.2.1, y.2.2.2.2.2.2.1, y.2.2.2.2.2.2.2.1, y.2.2.2.2.2.2.2.2.1, y.2.2.2.2.2.2.2.2.2.1, y.2.2.2.2.2.2.2.2.2.2.1, y_1.1, y_1.2.1, y_1.2.2.1, y_1.2.2.2.1, y_1.2.2.2.2.1, y_1.2.2.2.2.2.1, y_1.2.2.2.2.2.2.1, y_1.2.2.2.2.2.2.2.1, y_1.2.2.2.2.2.2.2.2.1, y_1.2.2.2.2.2.2.2.2.2.1, y_1.2.2.2.2.2.2.2.2.2.2.1, ())) fun r => bif r.1 then bif decide (Int.ofNat 0 ≤ x0) then Option.bind x1[Int.toNat x0]? fun y => bif decide (List.length x2 + List.length [(y.1, y.2.1, y.2.2.1, y.2.2.2.1, y.2.2.2.2.1, y.2.2.2.2.2.1, y.2.2.2.2.2.2.1, y.2.2.2.2.2.2.2.1, y.2.2.2.2.2.2.2.2.1, y.2.2.2.2.2.2.2.2.2.1, y.2.2.2.2.2.2.2.2.2.2.1, ())] ≤ 1599289640401) then some (Sum.inl (IntKind.wrap IntKind.i64 (x0 + Int.ofNat 1), x1, x2 ++ [(y.1, y.2.1, y.2.2.1, y.2.2.2.1, y.2.2.2.2.1, y.2.2.2.2.2.1, y.2.2.2.2.2.2.1, y.2.2.2.2.2.2.2.1, y.2.2.2.2.2.2.2.2.1, y.2.2.2.2.2.2.2.2.2.1, y.2.2.2.2.2.2.2.2.2.2.1, ())], ())) else none else none else bif decide (Int.ofNat 0 ≤ x0) then Option.bind x1[Int.toNat x0]? fun y => bif decide (Int.ofNat 0 ≤ IntKind.wrap IntKind.i64 (Int.ofNat (List.length x2) - Int.ofNat 1)) && decide (IntKind.wrap IntKind.i64 (Int.ofNat (List.length x2) - Int.ofNat 1) < Int.ofNat (List.length x2)) then Option.bind x2[Int.toNat (IntKind.wrap IntKind.i64 (Int.ofNat (List.length x2) - Int.ofNat 1))]? fun y_2 => Option.bind (F61 (y.1, y.2.1, y.2.2.1, y.2.2.2.1, y.2.2.2.2.1, y.2.2.2.2.2.1, y.2.2.2.2.2.2.1, y.2.2.2.2.2.2.2.1, y.2.2.2.2.2.2.2.2.1, y.2.2.2.2.2.2.2.2.2.1, y.2.2.2.2.2.2.2.2.2.2.1, y_2.1, y_2.2.1, y_2.2.2.1, y_2.2.2.2.1, y_2.2.2.2.2.1, y_2.2.2.2.2.2.1, y_2.2.2.2.2.2.2.1, y_2.2.2.2.2.2.2.2.1, y_2.2.2.2.2.2.2.2.2.1, y_2.2.2.2.2.2.2.2.2.2.1, y_2.2.2.2.2.2.2.2.2.2.2.1, ())) fun r => bif r.1 then bif decide (Int.ofNat 0 ≤ x0) then Option.bind x1[Int.toNat x0]? fun y => bif decide (Int.ofNat 0 ≤ x0) then Option.bind x1[Int.toNat x0]? fun y_3 => bif decide (Int.ofNat 0 ≤ x0) then Option.bind x1[Int.toNat x0]? fun y_4 => bif decide (Int.ofNat 0 ≤ IntKind.wrap IntKind.i64 (Int.ofNat (List.length x2) - Int.ofNat 1)) && decide (IntKind.wrap IntKind.i64 (Int.ofNat (List.length x2) - Int.ofNat 1) < Int.ofNat (List.length x2)) then Option.bind x2[Int.toNat (IntKind.wrap IntKind.i64 (Int.ofNat (List.length x2) - Int.ofNat 1))]? fun y_5 => bif decide (Int.ofNat 0 ≤ IntKind.wrap IntKind.i64 (Int.ofNat (List.length x2) - Int.ofNat 1)) && decide (IntKind.wrap IntKind.i64 (Int.ofNat (List.length x2) - Int.ofNat 1) < Int.ofNat (List.length (List.set x2 (Int.toNat (IntKind.wrap IntKind.i64 (Int.ofNat (List.length x2) - Int.ofNat 1))) (y_5.1, y_5.2.1, y_5.2.2.1, y_5.2.2.2.1, y.2.2.2.2.1, y.2.2.2.2.2.1, y.2.2.2.2.2.2.1, y.2.2.2.2.2.2.2.1, y_5.2.2.2.2.2.2.2.2.1, y_5.2.2.2.2.2.2.2.2.2.1, y_5.2.2.2.2.2.2.2.2.2.2.1, ())))) then Option.bind (List.set x2 (Int.toNat (IntKind.wrap IntKind.i64 (Int.ofNat (List.length x2) - Int.ofNat 1))) (y_5.1, y_5.2.1, y_5.2.2.1, y_5.2.2.2.1, y.2.2.2.2.1, y.2.2.2.2.2.1, y.2.2.2.2.2.2.1, y.2.2.2.2.2.2.2.1, y_5.2.2.2.2.2.2.2.2.1, y_5.2.2.2.2.2.2.2.2.2.1, y_5.2.2.2.2.2.2.2.2.2.2.1, ()))[Int.toNat (IntKind.wrap IntKind.i64 (Int.ofNat (List.length x2) - Int.ofNat 1))]? fun y_6 => bif decide (Int.ofNat 0 ≤ IntKind.wrap IntKind.i64 (Int.ofNat (List.length x2) - Int.ofNat 1)) && decide (IntKind.wrap IntKind.i64 (Int.ofNat (List.length x2) - Int.ofNat 1) < Int.ofNat (List.length (List.set (List.set x2 (Int.toNat (IntKind.wrap IntKind.i64 (Int.ofNat (List.length x2) - Int.ofNat 1))) (y_5.1, y_5.2.1, y_5.2.2.1, y_5.2.2.2.1, y.2.2.2.2.1, y.2.2.2.2.2.1, y.2.2.2.2.2.2.1, y.2.2.2.2.2.2.2.1, y_5.2.2.2.2.2.2.2.2.1, y_5.2.2.2.2.2.2.2.2.2.1, y_5.2.2.2.2.2.2.2.2.2.2.1, ())) (Int.toNat (IntKind.wrap IntKind.i64 (Int.ofNat (List.length x2) - Int.ofNat 1))) (y_6.1, y_6.2.1, y_6.2.2.1, y_6.2.2.2.1, y_6.2.2.2.2.1, y_6.2.2.2.2.2.1, y_6.2.2.2.2.2.2.1, y_6.2.2.2.2.2.2.2.1, y_6.2.2.2.2.2.2.2.2.1, y_3.2.2.2.2.2.2.2.2.2.1, y_6.2.2.2.2.2.2.2.2.2.2.1, ())))) then Option.bind (List.set (List.set x2 (Int.toNat (IntKind.wrap IntKind.i64 (Int.ofNat (List.length x2) - Int.ofNat 1))) (y_5.1, y_5.2.1, y_5.2.2.1, y_5.2.2.2.1, y.2.2.2.2.1, y.2.2.2.2.2.1, y.2.2.2.2.2.2.1, y.2.2.2.2.2.2.2.1, y_5.2.2.2.2.2.2.2.2.1, y_5.2.2.2.2.2.2.2.2.2.1, y_5.2.2.2.2.2.2.2.2.2.2.1, ())) (Int.toNat (IntKind.wrap IntKind.i64 (Int.ofNat (List.length x2) - Int.ofNat 1))) (y_6.1, y_6.2.1, y_6.2.2.1, y_6.2.2.2.1, y_6.2.2.2.2.1, y_6.2.2.2.2.2.1, y_6.2.2.2.2.2.2.1, y_6.2.2.2.2.2.2.2.1, y_6.2.2.2.2.2.2.2.2.1, y_3.2.2.2.2.2.2.2.2.2.1, y_6.2.2.2.2.2.2.2.2.2.2.1, ()))[Int.toNat (IntKind.wrap IntKind.i64 (Int.ofNat (List.length x2) - Int.ofNat 1))]? fun y_7 => some (Sum.inl (IntKind.wrap IntKind.i64 (x0 + Int.ofNat 1), x1, List.set (List.set (List.set x2 (Int.toNat (IntKind.wrap IntKind.i64 (Int.ofNat (List.length x2) - Int.ofNat 1))) (y_5.1, y_5.2.1, y_5.2.2.1, y_5.2.2.2.1, y.2.2.2.2.1, y.2.2.2.2.2.1, y.2.2.2.2.2.2.1, y.2.2.2.2.2.2.2.1, y_5.2.2.2.2.2.2.2.2.1, y_5.2.2.2.2.2.2.2.2.2.1, y_5.2.2.2.2.2.2.2.2.2.2.1, ())) (Int.toNat (IntKind.wrap IntKind.i64 (Int.ofNat (List.length x2) - Int.ofNat 1))) (y_6.1, y_6.2.1, y_6.2.2.1, y_6.2.2.2.1, y_6.2.2.2.2.1, y_6.2.2.2.2.2.1, y_6.2.2.2.2.2.2.1, y_6.2.2.2.2.2.2.2.1, y_6.2.2.2.2.2.2.2.2.1, y_3.2.2.2.2.2.2.2.2.2.1, y_6.2.2.2.2.2.2.2.2.2.2.1, ())) (Int.toNat (IntKind.wrap IntKind.i64 (Int.ofNat (List.length x2) - Int.ofNat 1))) (y_7.1, y_7.2.1, y_7.2.2.1, y_7.2.2.2.1, y_7.2.2.2.2.1, y_7.2.2.2.2.2.1, y_7.2.2.2.2.2.2.1, y_7.2.2.2.2.2.2.2.1, y_7.2.2.2.2.2.2.2.2.1, y_7.2.2.2.2.2.2.2.2.2.1, y_4.2.2.2.2.2.2.2.2.2.2.1, ()), ())) else none else none else none else none else none else none else some (Sum.inl (IntKind.wrap IntKind.i64 (x0 + Int.ofNat 1), x1, x2, ())) else none else none else none else none else some (Sum.inr (x2, ())) := by kernel_rfl
theorem F36_eq (x0 : List R7) : F36 (x0, ()) = Option.bind (loop B36_1 (x0, Int.ofNat 0, [], ())) fun r => Option.bind (loop B36_2 (Int.ofNat 0, r.1, [], ())) fun r => some (r.1, ()) := by kernel_rfl
theorem F29_eq (x0 x1 : Int) : F29 (x0, x1, ()) = bif !decide (x1 = Int.ofNat 0) then bif decide (Int.tmod x0 x1 < Int.ofNat 0) then some (IntKind.wrap IntKind.i64 (Int.tmod x0 x1 + x1), ()) else some (Int.tmod x0 x1, ()) else none := by kernel_rfl
theorem F54_eq (x0 x1 : Int) : F54 (x0, x1, ()) = bif !decide (x1 = Int.ofNat 0) then bif decide (Int.tmod x0 x1 < Int.ofNat 0) then some (IntKind.wrap IntKind.i64 (Int.tmod x0 x1 + x1), ()) else some (Int.tmod x0 x1, ()) else none := by kernel_rfl
theorem B32_0_eq (x0 x1 x2 x3 x4 : Int) (x5 : ByteArray) (x6 x7 x8 : Int) (x9 : ByteArray) (x10 : List ByteArray) : B32_0 (x0, x1, x2, x3, x4, x5, x6, x7, x8, x9, x10, ()) =
 bif decide (x1 < Int.tmod x0 (Int.ofNat 4)) then bif decide (x1 > Int.ofNat 0) then bif fitsS x9 (lit [46]) then bif decide (Int.ofNat 0 ≤ Int.tmod (IntKind.wrap IntKind.i64 (Int.tdiv x0 (Int.ofNat 4))) (Int.ofNat 13)) then Option.bind x10[Int.toNat (Int.tmod (IntKind.wrap IntKind.i64 (Int.tdiv x0 (Int.ofNat 4))) (Int.ofNat 13))]? fun y => bif fitsS (x9 ++ (lit [46])) y then some (Sum.inl (IntKind.wrap IntKind.i64 (Int.tdiv x0 (Int.ofNat 13)), IntKind.wrap IntKind.i64 (x1 + Int.ofNat 1), x2, x3, x4, x5, x6, x7, x8, x9 ++ (lit [46]) ++ y, x10, ())) else none else none else none else bif decide (Int.ofNat 0 ≤ Int.tmod (IntKind.wrap IntKind.i64 (Int.tdiv x0 (Int.ofNat 4))) (Int.ofNat 13)) then Option.bind x10[Int.toNat (Int.tmod (IntKind.wrap IntKind.i64 (Int.tdiv x0 (Int.ofNat 4))) (Int.ofNat 13))]? fun y => bif fitsS x9 y then some (Sum.inl (IntKind.wrap IntKind.i64 (Int.tdiv x0 (Int.ofNat 13)), IntKind.wrap IntKind.i64 (x1 + Int.ofNat 1), x2, x3, x4, x5, x6, x7, x8, x9 ++ y, x10, ())) else none else none else some (Sum.inr (x2, x3, x4, x5, x6, x7, x8, x9, ())) := by kernel_rfl
theorem F32_eq (x0 x1 : Int) : F32 (x0, x1, ()) =
 Option.bind (F54 (x0, Int.ofNat 1099511627776, ())) fun r => bif Int.tmod (IntKind.wrap IntKind.i64 (Int.tdiv r.1 (Int.ofNat 48))) (Int.ofNat 9) == Int.ofNat 0 then Option.bind (F54 (x1, Int.ofNat 1099511627776, ())) fun r_1 => Option.bind (loop B32_0 (r_1.1, Int.ofNat 0, Int.ofNat 0, Int.ofNat 0, Int.ofNat 0, (lit []), IntKind.wrap IntKind.i64 (Int.ofNat 999999 - Int.tmod (IntKind.wrap IntKind.i64 (Int.tdiv r.1 (Int.ofNat 432))) (Int.ofNat 2)), Int.tmod (IntKind.wrap IntKind.i64 (Int.tdiv r.1 (Int.ofNat 3))) (Int.ofNat 4), Int.tmod (IntKind.wrap IntKind.i64 (Int.tdiv r.1 (Int.ofNat 12))) (Int.ofNat 4), (lit []), [(lit [48]), (lit [49]), (lit [49, 48]), (lit [50]), (lit [97]), (lit [114, 99]), (lit [114, 99, 49]), (lit [65]), (lit [45]), (lit [48, 97]), (lit [97, 108, 112, 104, 97]), (lit [57, 57, 57, 57, 57, 57, 57, 57, 57, 57]), (lit [50, 48, 50, 48, 48, 49, 48, 49, 48, 48, 48, 48, 48, 48, 45, 97, 98, 99, 100, 101, 102, 48, 49, 50, 51, 52, 53])], ())) fun r => bif decide (Int.ofNat (ByteArray.size r.2.2.2.2.2.2.2.1) > Int.ofNat 40) then some (r.2.2.2.2.1, r.2.2.2.2.2.1, r.2.2.2.2.2.2.1, (lit [114, 99, 46, 49]), ()) else some (r.2.2.2.2.1, r.2.2.2.2.2.1, r.2.2.2.2.2.2.1, r.2.2.2.2.2.2.2.1, ()) else bif Int.tmod (IntKind.wrap IntKind.i64 (Int.tdiv r.1 (Int.ofNat 48))) (Int.ofNat 9) == Int.ofNat 1 then Option.bind (F54 (x1, Int.ofNat 1099511627776, ())) fun r_1 => Option.bind (loop B32_0 (r_1.1, Int.ofNat 0, Int.ofNat 0, Int.ofNat 0, Int.ofNat 0, (lit []), Int.tmod r.1 (Int.ofNat 3), IntKind.wrap IntKind.i64 (Int.ofNat 999999 - Int.tmod (IntKind.wrap IntKind.i64 (Int.tdiv r.1 (Int.ofNat 432))) (Int.ofNat 2)), Int.tmod (IntKind.wrap IntKind.i64 (Int.tdiv r.1 (Int.ofNat 12))) (Int.ofNat 4), (lit []), [(lit [48]), (lit [49]), (lit [49, 48]), (lit [50]), (lit [97]), (lit [114, 99]), (lit [114, 99, 49]), (lit [65]), (lit [45]), (lit [48, 97]), (lit [97, 108, 112, 104, 97]), (lit [57, 57, 57, 57, 57, 57, 57, 57, 57, 57]), (lit [50, 48, 50, 48, 48, 49, 48, 49, 48, 48, 48, 48, 48, 48, 45, 97, 98, 99, 100, 101, 102, 48, 49, 50, 51, 52, 53])], ())) fun r => bif decide (Int.ofNat (ByteArray.size r.2.2.2.2.2.2.2.1) > Int.ofNat 40) then some (r.2.2.2.2.1, r.2.2.2.2.2.1, r.2.2.2.2.2.2.1, (lit [114, 99, 46, 49]), ()) else some (r.2.2.2.2.1, r.2.2.2.2.2.1, r.2.2.2.2.2.2.1, r.2.2.2.2.2.2.2.1, ()) else bif Int.tmod (IntKind.wrap IntKind.i64 (Int.tdiv r.1 (Int.ofNat 48))) (Int.ofNat 9) == Int.ofNat 2 then Option.bind (F54 (x1, Int.ofNat 1099511627776, ())) fun r_1 => Option.bind (loop B32_0 (r_1.1, Int.ofNat 0, Int.ofNat 0, Int.ofNat 0, Int.ofNat 0, (lit []), Int.tmod r.1 (Int.ofNat 3), Int.tmod (IntKind.wrap IntKind.i64 (Int.tdiv r.1 (Int.ofNat 3))) (Int.ofNat 4), IntKind.wrap IntKind.i64 (Int.ofNat 999999 - Int.tmod (IntKind.wrap IntKind.i64 (Int.tdiv r.1 (Int.ofNat 432))) (Int.ofNat 2)), (lit []), [(lit [48]), (lit [49]), (lit [49, 48]), (lit [50]), (lit [97]), (lit [114, 99]), (lit [114, 99, 49]), (lit [65]), (lit [45]), (lit [48, 97]), (lit [97, 108, 112, 104, 97]), (lit [57, 57, 57, 57, 57, 57, 57, 57, 57, 57]), (lit [50, 48, 50, 48, 48, 49, 48, 49, 48, 48, 48, 48, 48, 48, 45, 97, 98, 99, 100, 101, 102, 48, 49, 50, 51, 52, 53])], ())) fun r => bif decide (Int.ofNat (ByteArray.size r.2.2.2.2.2.2.2.1) > Int.ofNat 40) then some (r.2.2.2.2.1, r.2.2.2.2.2.1, r.2.2.2.2.2.2.1, (lit [114, 99, 46, 49]), ()) else some (r.2.2.2.2.1, r.2.2.2.2.2.1, r.2.2.2.2.2.2.1, r.2.2.2.2.2.2.2.1, ()) else Option.bind (F54 (x1, Int.ofNat 1099511627776, ())) fun r_1 => Option.bind (loop B32_0 (r_1.1, Int.ofNat 0, Int.ofNat 0, Int.ofNat 0, Int.ofNat 0, (lit []), Int.tmod r.1 (Int.ofNat 3), Int.tmod (IntKind.wrap IntKind.i64 (Int.tdiv r.1 (Int.ofNat 3))) (Int.ofNat 4), Int.tmod (IntKind.wrap IntKind.i64 (Int.tdiv r.1 (Int.ofNat 12))) (Int.ofNat 4), (lit []), [(lit [48]), (lit [49]), (lit [49, 48]), (lit [50]), (lit [97]), (lit [114, 99]), (lit [114, 99, 49]), (lit [65]), (lit [45]), (lit [48, 97]), (lit [97, 108, 112, 104, 97]), (lit [57, 57, 57, 57, 57, 57, 57, 57, 57, 57]), (lit [50, 48, 50, 48, 48, 49, 48, 49, 48, 48, 48, 48, 48, 48, 45, 97, 98, 99, 100, 101, 102, 48, 49, 50, 51, 52, 53])], ())) fun r => bif decide (Int.ofNat (ByteArray.size r.2.2.2.2.2.2.2.1) > Int.ofNat 40) then some (r.2.2.2.2.1, r.2.2.2.2.2.1, r.2.2.2.2.2.2.1, (lit [114, 99, 46, 49]), ()) else some (r.2.2.2.2.1, r.2.2.2.2.2.1, r.2.2.2.2.2.2.1, r.2.2.2.2.2.2.2.1, ()) := by kernel_rfl
theorem B38_0_eq (x0 : List Int) (x1 : Int) (x2 : List R7) : B38_0 (x0, x1, x2, ()) =
 bif decide (x1 < Int.ofNat (List.length x0)) then bif decide (x1 < Int.ofNat 6) then bif decide (Int.ofNat 0 ≤ x1) then Option.bind x0[Int.toNat x1]? fun y => Option.bind (F29 (y, Int.ofNat 1125899906842624, ())) fun r => Option.bind (F32 (r.1, IntKind.wrap IntKind.i64 (Int.tdiv r.1 (Int.ofNat 7)), ())) fun r_1 => Option.bind (F32 (IntKind.wrap IntKind.i64 (Int.tdiv r.1 (Int.ofNat 11)), IntKind.wrap IntKind.i64 (Int.tdiv r.1 (Int.ofNat 13)), ())) fun r_2 => bif Int.tmod (IntKind.wrap IntKind.i64 (Int.tdiv r.1 (Int.ofNat 28))) (Int.ofNat 4) == Int.ofNat 0 then bif decide (List.length x2 + List.length [(r_1.1, r_1.2.1, r_1.2.2.1, r_1.2.2.2.1, r_1.1, r_1.2.1, r_1.2.2.1, r_1.2.2.2.1, Int.tmod r.1 (Int.ofNat 2) == Int.ofNat 0, Int.tmod (IntKind.wrap IntKind.i64 (Int.tdiv r.1 (Int.ofNat 2))) (Int.ofNat 2) == Int.ofNat 0, Int.tmod (IntKind.wrap IntKind.i64 (Int.tdiv r.1 (Int.ofNat 4))) (Int.ofNat 7) == Int.ofNat 0, ())] ≤ 1599289640401) then some (Sum.inl (x0, IntKind.wrap IntKind.i64 (x1 + Int.ofNat 1), x2 ++ [(r_1.1, r_1.2.1, r_1.2.2.1, r_1.2.2.2.1, r_1.1, r_1.2.1, r_1.2.2.1, r_1.2.2.2.1, Int.tmod r.1 (Int.ofNat 2) == Int.ofNat 0, Int.tmod (IntKind.wrap IntKind.i64 (Int.tdiv r.1 (Int.ofNat 2))) (Int.ofNat 2) == Int.ofNat 0, Int.tmod (IntKind.wrap IntKind.i64 (Int.tdiv r.1 (Int.ofNat 4))) (Int.ofNat 7) == Int.ofNat 0, ())], ())) else none else bif decide (List.length x2 + List.length [(r_1.1, r_1.2.1, r_1.2.2.1, r_1.2.2.2.1, r_2.1, r_2.2.1, r_2.2.2.1, r_2.2.2.2.1, Int.tmod r.1 (Int.ofNat 2) == Int.ofNat 0, Int.tmod (IntKind.wrap IntKind.i64 (Int.tdiv r.1 (Int.ofNat 2))) (Int.ofNat 2) == Int.ofNat 0, Int.tmod (IntKind.wrap IntKind.i64 (Int.tdiv r.1 (Int.ofNat 4))) (Int.ofNat 7) == Int.ofNat 0, ())] ≤ 1599289640401) then some (Sum.inl (x0, IntKind.wrap IntKind.i64 (x1 + Int.ofNat 1), x2 ++ [(r_1.1, r_1.2.1, r_1.2.2.1, r_1.2.2.2.1, r_2.1, r_2.2.1, r_2.2.2.1, r_2.2.2.2.1, Int.tmod r.1 (Int.ofNat 2) == Int.ofNat 0, Int.tmod (IntKind.wrap IntKind.i64 (Int.tdiv r.1 (Int.ofNat 2))) (Int.ofNat 2) == Int.ofNat 0, Int.tmod (IntKind.wrap IntKind.i64 (Int.tdiv r.1 (Int.ofNat 4))) (Int.ofNat 7) == Int.ofNat 0, ())], ())) else none else none else some (Sum.inr (x2, ())) else some (Sum.inr (x2, ())) := by kernel_rfl
theorem F38_eq (x0 : List Int) : F38 (x0, ()) = Option.bind (loop B38_0 (x0, Int.ofNat 0, [], ())) fun r => some (r.1, ()) := by kernel_rfl
theorem F15_eq (x0 : List Int) : F15 (x0, ()) = Option.bind (F38 (x0, ())) fun r => Option.bind (F36 (r.1, ())) fun r => some (r.1, ()) := by kernel_rfl
theorem B19_0_eq (x0 x1 : List R7) (x2 : Int) : B19_0 (x0, x1, x2, ()) =
 bif decide (x2 < Int.ofNat (List.length x0)) then bif decide (Int.ofNat 0 ≤ x2) then Option.bind x0[Int.toNat x2]? fun y => bif decide (Int.ofNat 0 ≤ x2) then Option.bind x1[Int.toNat x2]? fun y_1 => bif !(y.1 == y_1.1 && (y.2.1 == y_1.2.1 && (y.2.2.1 == y_1.2.2.1 && bl y.2.2.2.1 == bl y_1.2.2.2.1)) && (y.2.2.2.2.1 == y_1.2.2.2.2.1 && (y.2.2.2.2.2.1 == y_1.2.2.2.2.2.1 && (y.2.2.2.2.2.2.1 == y_1.2.2.2.2.2.2.1 && bl y.2.2.2.2.2.2.2.1 == bl y_1.2.2.2.2.2.2.2.1)) && (y.2.2.2.2.2.2.2.2.1 == y_1.2.2.2.2.2.2.2.2.1 && (y.2.2.2.2.2.2.2.2.2.1 == y_1.2.2.2.2.2.2.2.2.2.1 && y.2.2.2.2.2.2.2.2.2.2.1 == y_1.2.2.2.2.2.2.2.2.2.2.1)))) then some (Sum.inr (Sum.inl (false, ()))) else some (Sum.inl (x0, x1, IntKind.wrap IntKind.i64 (x2 + Int.ofNat 1), ())) else none else none else some (Sum.inr (Sum.inr ())) := by kernel_rfl
theorem F19_eq (x0 x1 : List R7) : F19 (x0, x1, ()) = bif !Int.ofNat (List.length x0) == Int.ofNat (List.length x1) then some (false, ()) else Option.bind (loop B19_0 (x0, x1, Int.ofNat 0, ())) fun r => Sum.elim (fun p => some (p.1, ())) (fun p => some (true, ())) r := by kernel_rfl
theorem F21_eq (x0 x1 : List R7) : F21 (x0, x1, ()) = bif decide (0 + List.length x0 ≤ 1599289640401) then bif decide (List.length ([] ++ x0) + List.length x1 ≤ 1599289640401) then Option.bind (F36 ([] ++ x0 ++ x1, ())) fun r => some (r.1, ()) else none else none := by kernel_rfl
theorem F27_eq  : F27 (()) = some (Int.ofNat 0, Int.ofNat 0, Int.ofNat 0, (lit [48]), ()) := by kernel_rfl
theorem B22_0_eq (x0 : List R7) (x1 : Int) (x2 : List R7) (x3 x4 x5 : Int) (x6 : ByteArray) (x7 x8 x9 : Int) (x10 : ByteArray) (x11 x12 x13 : Bool) : B22_0 (x0, x1, x2, x3, x4, x5, x6, x7, x8, x9, x10, x11, x12, x13, ()) =
 bif decide (x1 < Int.ofNat (List.length x0)) then bif decide (Int.ofNat 0 ≤ x1) then Option.bind x0[Int.toNat x1]? fun y => bif decide (Int.ofNat 0 ≤ x1) then Option.bind x0[Int.toNat x1]? fun y_1 => bif decide (List.length x2 + List.length [(x3, x4, x5, x6, y.1, y.2.1, y.2.2.1, y.2.2.2.1, x11, y_1.2.2.2.2.2.2.2.2.1, false, ())] ≤ 1599289640401) then bif decide (Int.ofNat 0 ≤ x1) then Option.bind x0[Int.toNat x1]? fun y_2 => bif y_2.2.2.2.2.2.2.2.2.2.2.1 then Option.bind (F36 (x2 ++ [(x3, x4, x5, x6, y.1, y.2.1, y.2.2.1, y.2.2.2.1, x11, y_1.2.2.2.2.2.2.2.2.1, false, ())], ())) fun r => some (Sum.inr (Sum.inl (r.1, ()))) else bif decide (Int.ofNat 0 ≤ x1) then Option.bind x0[Int.toNat x1]? fun y_3 => bif decide (Int.ofNat 0 ≤ x1) then Option.bind x0[Int.toNat x1]? fun y_4 => some (Sum.inl (x0, IntKind.wrap IntKind.i64 (x1 + Int.ofNat 1), x2 ++ [(x3, x4, x5, x6, y.1, y.2.1, y.2.2.1, y.2.2.2.1, x11, y_1.2.2.2.2.2.2.2.2.1, false, ())], y_3.2.2.2.2.1, y_3.2.2.2.2.2.1, y_3.2.2.2.2.2.2.1, y_3.2.2.2.2.2.2.2.1, x7, x8, x9, x10, y_4.2.2.2.2.2.2.2.2.2.1, x12, x13, ())) else none else none else none else none else none else none else some (Sum.inr (Sum.inr (x2, x3, x4, x5, x6, x7, x8, x9, x10, x11, x12, x13, ()))) := by kernel_rfl
theorem F22_eq (x0 : List R7) : F22 (x0, ()) =
 Option.bind (F27 ()) fun r => Option.bind (loop B22_0 (x0, Int.ofNat 0, [], r.1, r.2.1, r.2.2.1, r.2.2.2.1, Int.ofNat 0, Int.ofNat 0, Int.ofNat 0, (lit []), false, false, true, ())) fun r => Sum.elim (fun p => some (p.1, ())) (fun p => bif decide (List.length p.1 + List.length [(p.2.1, p.2.2.1, p.2.2.2.1, p.2.2.2.2.1, p.2.2.2.2.2.1, p.2.2.2.2.2.2.1, p.2.2.2.2.2.2.2.1, p.2.2.2.2.2.2.2.2.1, p.2.2.2.2.2.2.2.2.2.1, p.2.2.2.2.2.2.2.2.2.2.1, p.2.2.2.2.2.2.2.2.2.2.2.1, ())] ≤ 1599289640401) then Option.bind (F36 (p.1 ++ [(p.2.1, p.2.2.1, p.2.2.2.1, p.2.2.2.2.1, p.2.2.2.2.2.1, p.2.2.2.2.2.2.1, p.2.2.2.2.2.2.2.1, p.2.2.2.2.2.2.2.2.1, p.2.2.2.2.2.2.2.2.2.1, p.2.2.2.2.2.2.2.2.2.2.1, p.2.2.2.2.2.2.2.2.2.2.2.1, ())], ())) fun r => some (r.1, ()) else none) r := by kernel_rfl
theorem F20_eq (x0 x1 : List R7) : F20 (x0, x1, ()) = Option.bind (F22 (x0, ())) fun r => Option.bind (F22 (x1, ())) fun r_1 => Option.bind (F21 (r.1, r_1.1, ())) fun r => Option.bind (F22 (r.1, ())) fun r => some (r.1, ()) := by kernel_rfl
theorem B23_0_eq (x0 : List R7) (x1 : Int) (x2 : List R5) : B23_0 (x0, x1, x2, ()) =
 bif decide (x1 < Int.ofNat (List.length x0)) then bif decide (Int.ofNat 0 ≤ x1) then Option.bind x0[Int.toNat x1]? fun y => bif decide (Int.ofNat 0 ≤ x1) then Option.bind x0[Int.toNat x1]? fun y_1 => bif decide (Int.ofNat 0 ≤ x1) then Option.bind x0[Int.toNat x1]? fun y_2 => bif decide (Int.ofNat 0 ≤ x1) then Option.bind x0[Int.toNat x1]? fun y_3 => bif decide (Int.ofNat 0 ≤ x1) then Option.bind x0[Int.toNat x1]? fun y_4 => bif decide (Int.ofNat 0 ≤ x1) then Option.bind x0[Int.toNat x1]? fun y_5 => bif decide (Int.ofNat 0 ≤ x1) then Option.bind x0[Int.toNat x1]? fun y_6 => bif decide (Int.ofNat 0 ≤ x1) then Option.bind x0[Int.toNat x1]? fun y_7 => bif decide (List.length x2 + List.length [(y.1, y.2.1, y.2.2.1, y.2.2.2.1, ()), (y_1.2.2.2.2.1, y_1.2.2.2.2.2.1, y_1.2.2.2.2.2.2.1, y_1.2.2.2.2.2.2.2.1, ()), (y_2.1, y_3.2.1, y_4.2.2.1, (lit []), ()), (y_5.2.2.2.2.1, y_6.2.2.2.2.2.1, y_7.2.2.2.2.2.2.1, (lit [48]), ())] ≤ 3518437208883) then some (Sum.inl (x0, IntKind.wrap IntKind.i64 (x1 + Int.ofNat 1), x2 ++ [(y.1, y.2.1, y.2.2.1, y.2.2.2.1, ()), (y_1.2.2.2.2.1, y_1.2.2.2.2.2.1, y_1.2.2.2.2.2.2.1, y_1.2.2.2.2.2.2.2.1, ()), (y_2.1, y_3.2.1, y_4.2.2.1, (lit []), ()), (y_5.2.2.2.2.1, y_6.2.2.2.2.2.1, y_7.2.2.2.2.2.2.1, (lit [48]), ())], ())) else none else none else none else none else none else none else none else none else none else some (Sum.inr (x2, ())) := by kernel_rfl
theorem F23_eq (x0 : List R7) (x1 x2 : Int) : F23 (x0, x1, x2, ()) =
 Option.bind (F32 (x1, x2, ())) fun r => Option.bind (F27 ()) fun r_1 => Option.bind (loop B23_0 (x0, Int.ofNat 0, [(r.1, r.2.1, r.2.2.1, r.2.2.2.1, ()), (r_1.1, r_1.2.1, r_1.2.2.1, r_1.2.2.2.1, ()), (Int.ofNat 0, Int.ofNat 0, Int.ofNat 0, (lit []), ()), (Int.ofNat 999999, Int.ofNat 999999, Int.ofNat 999999, (lit []), ())], ())) fun r => some (r.1, ()) := by kernel_rfl
theorem B25_0_eq (x0 : List R7) (x1 x2 x3 x4 : Int) (x5 : ByteArray) : B25_0 (x0, x1, x2, x3, x4, x5, ()) =
 bif decide (x1 < Int.ofNat (List.length x0)) then bif decide (Int.ofNat 0 ≤ x1) then Option.bind x0[Int.toNat x1]? fun y => Option.bind (F26 (y.1, y.2.1, y.2.2.1, y.2.2.2.1, x2, x3, x4, x5, ())) fun r => Option.bind (F26 (x2, x3, x4, x5, y.2.2.2.2.1, y.2.2.2.2.2.1, y.2.2.2.2.2.2.1, y.2.2.2.2.2.2.2.1, ())) fun r_1 => bif decide (r.1 < Int.ofNat 0) then bif y.2.2.2.2.2.2.2.2.2.2.1 then some (Sum.inr (Sum.inl (true, ()))) else bif decide (r_1.1 < Int.ofNat 0) then some (Sum.inr (Sum.inl (true, ()))) else bif r_1.1 == Int.ofNat 0 then bif y.2.2.2.2.2.2.2.2.2.1 then some (Sum.inr (Sum.inl (true, ()))) else some (Sum.inl (x0, IntKind.wrap IntKind.i64 (x1 + Int.ofNat 1), x2, x3, x4, x5, ())) else some (Sum.inl (x0, IntKind.wrap IntKind.i64 (x1 + Int.ofNat 1), x2, x3, x4, x5, ())) else bif r.1 == Int.ofNat 0 then bif !y.2.2.2.2.2.2.2.2.1 then bif y.2.2.2.2.2.2.2.2.2.2.1 then some (Sum.inr (Sum.inl (true, ()))) else bif decide (r_1.1 < Int.ofNat 0) then some (Sum.inr (Sum.inl (true, ()))) else bif r_1.1 == Int.ofNat 0 then bif y.2.2.2.2.2.2.2.2.2.1 then some (Sum.inr (Sum.inl (true, ()))) else some (Sum.inl (x0, IntKind.wrap IntKind.i64 (x1 + Int.ofNat 1), x2, x3, x4, x5, ())) else some (Sum.inl (x0, IntKind.wrap IntKind.i64 (x1 + Int.ofNat 1), x2, x3, x4, x5, ())) else some (Sum.inl (x0, IntKind.wrap IntKind.i64 (x1 + Int.ofNat 1), x2, x3, x4, x5, ())) else some (Sum.inl (x0, IntKind.wrap IntKind.i64 (x1 + Int.ofNat 1), x2, x3, x4, x5, ())) else none else some (Sum.inr (Sum.inr ())) := by kernel_rfl
theorem F25_eq (x0 : List R7) (x1 x2 x3 : Int) (x4 : ByteArray) : F25 (x0, x1, x2, x3, x4, ()) = Option.bind (loop B25_0 (x0, Int.ofNat 0, x1, x2, x3, x4, ())) fun r => Sum.elim (fun p => some (p.1, ())) (fun p => some (false, ())) r := by kernel_rfl
theorem FX55_eq (X : Shape.D sh55 → Option (Shape.D out55)) (x0 : Int) : FX55 X (x0, ()) =
 bif decide (x0 ≥ Int.ofNat 10) then Option.bind (X (IntKind.wrap IntKind.i64 (Int.tdiv x0 (Int.ofNat 10)), ())) fun r => Option.bind (X (Int.tmod x0 (Int.ofNat 10), ())) fun r_1 => bif fitsS r.1 r_1.1 then some (r.1 ++ r_1.1, ()) else none else some (bstr [IntKind.wrap IntKind.u8 (IntKind.wrap IntKind.i64 (Int.ofNat 48 + x0))], ()) := by kernel_rfl
theorem F33_eq (x0 x1 x2 : Int) (x3 : ByteArray) : F33 (x0, x1, x2, x3, ()) =
 Option.bind (F55 (x0, ())) fun r => bif fitsS (lit [118]) r.1 then bif fitsS ((lit [118]) ++ r.1) (lit [46]) then Option.bind (F55 (x1, ())) fun r_1 => bif fitsS ((lit [118]) ++ r.1 ++ (lit [46])) r_1.1 then bif fitsS ((lit [118]) ++ r.1 ++ (lit [46]) ++ r_1.1) (lit [46]) then Option.bind (F55 (x2, ())) fun r_2 => bif fitsS ((lit [118]) ++ r.1 ++ (lit [46]) ++ r_1.1 ++ (lit [46])) r_2.1 then bif bl x3 == [] then some ((lit [118]) ++ r.1 ++ (lit [46]) ++ r_1.1 ++ (lit [46]) ++ r_2.1, ()) else bif fitsS ((lit [118]) ++ r.1 ++ (lit [46]) ++ r_1.1 ++ (lit [46]) ++ r_2.1) (lit [45]) then bif fitsS ((lit [118]) ++ r.1 ++ (lit [46]) ++ r_1.1 ++ (lit [46]) ++ r_2.1 ++ (lit [45])) x3 then some ((lit [118]) ++ r.1 ++ (lit [46]) ++ r_1.1 ++ (lit [46]) ++ r_2.1 ++ (lit [45]) ++ x3, ()) else none else none else none else none else none else none else none := by kernel_rfl
theorem F76_eq (x0 : Int) : F76 (x0, ()) = Option.bind (F32 (IntKind.wrap IntKind.i64 (Int.tdiv x0 (Int.ofNat 3)), IntKind.wrap IntKind.i64 (Int.tdiv x0 (Int.ofNat 5)), ())) fun r => Option.bind (F33 (r.1, r.2.1, r.2.2.1, r.2.2.2.1, ())) fun r => some (r.1, ()) := by kernel_rfl
theorem F49_eq (x0 : Int) : F49 (x0, ()) =
 Option.bind (F29 (x0, Int.ofNat 1125899906842624, ())) fun r => Option.bind (F76 (r.1, ())) fun r_1 => bif Int.tmod r.1 (Int.ofNat 16) == Int.ofNat 0 then some ((lit [42]), ()) else bif Int.tmod r.1 (Int.ofNat 16) == Int.ofNat 1 then bif decide (Int.ofNat 0 ≤ Int.tmod (IntKind.wrap IntKind.i64 (Int.tdiv r.1 (Int.ofNat 16))) (Int.ofNat 4)) && (decide (Int.tmod (IntKind.wrap IntKind.i64 (Int.tdiv r.1 (Int.ofNat 16))) (Int.ofNat 4) ≤ IntKind.wrap IntKind.i64 (Int.tmod (IntKind.wrap IntKind.i64 (Int.tdiv r.1 (Int.ofNat 16))) (Int.ofNat 4) + Int.ofNat 1)) && decide (IntKind.wrap IntKind.i64 (Int.tmod (IntKind.wrap IntKind.i64 (Int.tdiv r.1 (Int.ofNat 16))) (Int.ofNat 4) + Int.ofNat 1) ≤ Int.ofNat 4)) then bif fitsS (lit [118]) (ByteArray.extract (lit [48, 49, 50, 51]) (Int.toNat (Int.tmod (IntKind.wrap IntKind.i64 (Int.tdiv r.1 (Int.ofNat 16))) (Int.ofNat 4))) (Int.toNat (IntKind.wrap IntKind.i64 (Int.tmod (IntKind.wrap IntKind.i64 (Int.tdiv r.1 (Int.ofNat 16))) (Int.ofNat 4) + Int.ofNat 1)))) then bif fitsS ((lit [118]) ++ ByteArray.extract (lit [48, 49, 50, 51]) (Int.toNat (Int.tmod (IntKind.wrap IntKind.i64 (Int.tdiv r.1 (Int.ofNat 16))) (Int.ofNat 4))) (Int.toNat (IntKind.wrap IntKind.i64 (Int.tmod (IntKind.wrap IntKind.i64 (Int.tdiv r.1 (Int.ofNat 16))) (Int.ofNat 4) + Int.ofNat 1)))) (lit [46, 120]) then some ((lit [118]) ++ ByteArray.extract (lit [48, 49, 50, 51]) (Int.toNat (Int.tmod (IntKind.wrap IntKind.i64 (Int.tdiv r.1 (Int.ofNat 16))) (Int.ofNat 4))) (Int.toNat (IntKind.wrap IntKind.i64 (Int.tmod (IntKind.wrap IntKind.i64 (Int.tdiv r.1 (Int.ofNat 16))) (Int.ofNat 4) + Int.ofNat 1))) ++ (lit [46, 120]), ()) else none else none else none else bif Int.tmod r.1 (Int.ofNat 16) == Int.ofNat 2 then bif decide (Int.ofNat 0 ≤ Int.tmod (IntKind.wrap IntKind.i64 (Int.tdiv r.1 (Int.ofNat 16))) (Int.ofNat 4)) && (decide (Int.tmod (IntKind.wrap IntKind.i64 (Int.tdiv r.1 (Int.ofNat 16))) (Int.ofNat 4) ≤ IntKind.wrap IntKind.i64 (Int.tmod (IntKind.wrap IntKind.i64 (Int.tdiv r.1 (Int.ofNat 16))) (Int.ofNat 4) + Int.ofNat 1)) && decide (IntKind.wrap IntKind.i64 (Int.tmod (IntKind.wrap IntKind.i64 (Int.tdiv r.1 (Int.ofNat 16))) (Int.ofNat 4) + Int.ofNat 1) ≤ Int.ofNat 4)) then bif fitsS (lit [118, 49, 46]) (ByteArray.extract (lit [48, 49, 50, 51]) (Int.toNat (Int.tmod (IntKind.wrap IntKind.i64 (Int.tdiv r.1 (Int.ofNat 16))) (Int.ofNat 4))) (Int.toNat (IntKind.wrap IntKind.i64 (Int.tmod (IntKind.wrap IntKind.i64 (Int.tdiv r.1 (Int.ofNat 16))) (Int.ofNat 4) + Int.ofNat 1)))) then bif fitsS ((lit [118, 49, 46]) ++ ByteArray.extract (lit [48, 49, 50, 51]) (Int.toNat (Int.tmod (IntKind.wrap IntKind.i64 (Int.tdiv r.1 (Int.ofNat 16))) (Int.ofNat 4))) (Int.toNat (IntKind.wrap IntKind.i64 (Int.tmod (IntKind.wrap IntKind.i64 (Int.tdiv r.1 (Int.ofNat 16))) (Int.ofNat 4) + Int.ofNat 1)))) (lit [46, 120]) then some ((lit [118, 49, 46]) ++ ByteArray.extract (lit [48, 49, 50, 51]) (Int.toNat (Int.tmod (IntKind.wrap IntKind.i64 (Int.tdiv r.1 (Int.ofNat 16))) (Int.ofNat 4))) (Int.toNat (IntKind.wrap IntKind.i64 (Int.tmod (IntKind.wrap IntKind.i64 (Int.tdiv r.1 (Int.ofNat 16))) (Int.ofNat 4) + Int.ofNat 1))) ++ (lit [46, 120]), ()) else none else none else none else bif Int.tmod r.1 (Int.ofNat 16) == Int.ofNat 3 then bif fitsS r_1.1 (lit [32, 45, 32]) then Option.bind (F76 (IntKind.wrap IntKind.i64 (Int.tdiv r.1 (Int.ofNat 7)), ())) fun r => bif fitsS (r_1.1 ++ (lit [32, 45, 32])) r.1 then some (r_1.1 ++ (lit [32, 45, 32]) ++ r.1, ()) else none else none else bif Int.tmod r.1 (Int.ofNat 16) == Int.ofNat 4 then some ((lit [118, 57, 57, 57, 57, 57, 57, 46, 120]), ()) else bif decide (Int.ofNat 0 ≤ IntKind.wrap IntKind.i64 (Int.tmod r.1 (Int.ofNat 16) - Int.ofNat 5)) then Option.bind [(lit []), (lit [61]), (lit [33, 61]), (lit [62]), (lit [62, 61]), (lit [60]), (lit [60, 61]), (lit [94]), (lit [94]), (lit [126]), (lit [126])][Int.toNat (IntKind.wrap IntKind.i64 (Int.tmod r.1 (Int.ofNat 16) - Int.ofNat 5))]? fun y => bif fitsS y r_1.1 then some (y ++ r_1.1, ()) else none else none := by kernel_rfl
theorem B28_0_eq (x0 : List Int) (x1 : ByteArray) (x2 : Int) : B28_0 (x0, x1, x2, ()) =
 bif decide (x2 < Int.ofNat (List.length x0)) then bif decide (x2 < Int.ofNat 6) then bif decide (x2 > Int.ofNat 0) then bif decide (Int.ofNat 0 ≤ x2) then Option.bind x0[Int.toNat x2]? fun y => Option.bind (F29 (y, Int.ofNat 5, ())) fun r => bif decide (Int.ofNat 0 ≤ r.1) then Option.bind [(lit [32]), (lit [32, 32]), (lit [32, 124, 124, 32]), (lit [124, 124]), (lit [32])][Int.toNat r.1]? fun y => bif fitsS x1 y then bif decide (Int.ofNat 0 ≤ x2) then Option.bind x0[Int.toNat x2]? fun y_1 => Option.bind (F29 (y_1, Int.ofNat 1125899906842624, ())) fun r => Option.bind (F49 (IntKind.wrap IntKind.i64 (Int.tdiv r.1 (Int.ofNat 5)), ())) fun r => bif fitsS (x1 ++ y) r.1 then some (Sum.inl (x0, x1 ++ y ++ r.1, IntKind.wrap IntKind.i64 (x2 + Int.ofNat 1), ())) else none else none else none else none else none else bif decide (Int.ofNat 0 ≤ x2) then Option.bind x0[Int.toNat x2]? fun y => Option.bind (F29 (y, Int.ofNat 1125899906842624, ())) fun r => Option.bind (F49 (IntKind.wrap IntKind.i64 (Int.tdiv r.1 (Int.ofNat 5)), ())) fun r => bif fitsS x1 r.1 then some (Sum.inl (x0, x1 ++ r.1, IntKind.wrap IntKind.i64 (x2 + Int.ofNat 1), ())) else none else none else some (Sum.inr (x1, ())) else some (Sum.inr (x1, ())) := by kernel_rfl
theorem F28_eq (x0 : List Int) : F28 (x0, ()) = Option.bind (loop B28_0 (x0, (lit []), Int.ofNat 0, ())) fun r => bif bl r.1 == [] then some ((lit [42]), ()) else some (r.1, ()) := by kernel_rfl
theorem B84_0_eq (x0 : ByteArray) (x1 : Int) : B84_0 (x0, x1, ()) = bif decide (x1 < Int.ofNat (ByteArray.size x0)) then bif decide (Int.ofNat 0 ≤ x1) && decide (x1 < Int.ofNat (ByteArray.size x0)) then bif bt x0 x1 == Int.ofNat 32 then some (Sum.inl (x0, IntKind.wrap IntKind.i64 (x1 + Int.ofNat 1), ())) else some (Sum.inr (x0, x1, ())) else none else some (Sum.inr (x0, x1, ())) := by kernel_rfl
theorem F84_eq (x0 : ByteArray) (x1 : Int) : F84 (x0, x1, ()) = Option.bind (loop B84_0 (x0, x1, ())) fun r => some (r.1, r.2.1, ()) := by kernel_rfl
theorem B85_0_eq (x0 : Int) (x1 : ByteArray) (x2 : Int) : B85_0 (x0, x1, x2, ()) =
 bif decide (x2 < Int.ofNat (ByteArray.size x1)) then bif decide (Int.ofNat 0 ≤ x2) && decide (x2 < Int.ofNat (ByteArray.size x1)) then bif !bt x1 x2 == Int.ofNat 32 then bif decide (Int.ofNat 0 ≤ x2) && decide (x2 < Int.ofNat (ByteArray.size x1)) then bif !bt x1 x2 == Int.ofNat 124 then some (Sum.inl (x0, x1, IntKind.wrap IntKind.i64 (x2 + Int.ofNat 1), ())) else some (Sum.inr (x0, x1, x2, ())) else none else some (Sum.inr (x0, x1, x2, ())) else none else some (Sum.inr (x0, x1, x2, ())) := by kernel_rfl
theorem F85_eq (x0 : ByteArray) (x1 : Int) : F85 (x0, x1, ()) =
 Option.bind (loop B85_0 (x1, x0, x1, ())) fun r => bif decide (Int.ofNat 0 ≤ r.1) && (decide (r.1 ≤ r.2.2.1) && decide (r.2.2.1 ≤ Int.ofNat (ByteArray.size r.2.1))) then Option.bind (F84 (r.2.1, r.2.2.1, ())) fun r_1 => some (ByteArray.extract r.2.1 (Int.toNat r.1) (Int.toNat r.2.2.1), r.1, r_1.1, r_1.2.1, ()) else none := by kernel_rfl
theorem B145_0_eq (x0 x1 x2 x3 : Int) (x4 : ByteArray) (x5 x6 x7 : Int) (x8 : ByteArray) (x9 x10 x11 : Bool) (x12 x13 x14 : Int) (x15 : ByteArray) (x16 x17 x18 : Int) (x19 : ByteArray) (x20 x21 x22 : Bool) (x23 x24 x25 : Int) : B145_0 (x0, x1, x2, x3, x4, x5, x6, x7, x8, x9, x10, x11, x12, x13, x14, x15, x16, x17, x18, x19, x20, x21, x22, x23, x24, x25, ()) =
 bif decide (x0 ≥ Int.ofNat 0) then bif x0 == Int.ofNat 0 then bif x23 == Int.ofNat 999999 then some (Sum.inl (IntKind.wrap IntKind.i64 (x0 - Int.ofNat 1), x1, x2, x3, x4, x5, x6, x7, x8, x9, x10, x11, x12, x13, x14, x15, x16, x17, x18, x19, x20, x21, x22, x23, x24, x25, ())) else some (Sum.inr (x0, x1, x2, x3, x4, x5, x6, x7, x8, x9, x10, x11, x12, x13, x14, x15, x16, x17, x18, x19, x20, x21, x22, x23, x24, x25, ())) else bif x0 == Int.ofNat 1 then bif x24 == Int.ofNat 999999 then some (Sum.inl (IntKind.wrap IntKind.i64 (x0 - Int.ofNat 1), x1, x2, x3, x4, x5, x6, x7, x8, x9, x10, x11, x12, x13, x14, x15, x16, x17, x18, x19, x20, x21, x22, x23, x24, x25, ())) else some (Sum.inr (x0, x1, x2, x3, x4, x5, x6, x7, x8, x9, x10, x11, x12, x13, x14, x15, x16, x17, x18, x19, x20, x21, x22, x23, x24, x25, ())) else bif x0 == Int.ofNat 2 then bif x25 == Int.ofNat 999999 then some (Sum.inl (IntKind.wrap IntKind.i64 (x0 - Int.ofNat 1), x1, x2, x3, x4, x5, x6, x7, x8, x9, x10, x11, x12, x13, x14, x15, x16, x17, x18, x19, x20, x21, x22, x23, x24, x25, ())) else some (Sum.inr (x0, x1, x2, x3, x4, x5, x6, x7, x8, x9, x10, x11, x12, x13, x14, x15, x16, x17, x18, x19, x20, x21, x22, x23, x24, x25, ())) else none else some (Sum.inr (x0, x1, x2, x3, x4, x5, x6, x7, x8, x9, x10, x11, x12, x13, x14, x15, x16, x17, x18, x19, x20, x21, x22, x23, x24, x25, ())) := by kernel_rfl
theorem B145_1_eq (x0 x1 x2 x3 x4 : Int) (x5 : ByteArray) (x6 x7 x8 : Int) (x9 : ByteArray) (x10 x11 x12 : Bool) (x13 x14 x15 : Int) (x16 : ByteArray) (x17 x18 x19 : Int) (x20 : ByteArray) (x21 x22 x23 : Bool) (x24 x25 x26 : Int) : B145_1 (x0, x1, x2, x3, x4, x5, x6, x7, x8, x9, x10, x11, x12, x13, x14, x15, x16, x17, x18, x19, x20, x21, x22, x23, x24, x25, x26, ()) =
 bif decide (x1 < Int.ofNat 3) then bif x1 == x0 then bif x1 == Int.ofNat 0 then bif x1 == Int.ofNat 0 then some (Sum.inl (x0, IntKind.wrap IntKind.i64 (x1 + Int.ofNat 1), x2, x3, x4, x5, x6, x7, x8, x9, x10, x11, x12, x13, x14, x15, x16, x17, x18, x19, x20, x21, x22, x23, IntKind.wrap IntKind.i64 (x24 + Int.ofNat 1), x25, x26, ())) else bif x1 == Int.ofNat 1 then some (Sum.inl (x0, IntKind.wrap IntKind.i64 (x1 + Int.ofNat 1), x2, x3, x4, x5, x6, x7, x8, x9, x10, x11, x12, x13, x14, x15, x16, x17, x18, x19, x20, x21, x22, x23, x24, IntKind.wrap IntKind.i64 (x24 + Int.ofNat 1), x26, ())) else bif x1 == Int.ofNat 2 then some (Sum.inl (x0, IntKind.wrap IntKind.i64 (x1 + Int.ofNat 1), x2, x3, x4, x5, x6, x7, x8, x9, x10, x11, x12, x13, x14, x15, x16, x17, x18, x19, x20, x21, x22, x23, x24, x25, IntKind.wrap IntKind.i64 (x24 + Int.ofNat 1), ())) else none else bif x1 == Int.ofNat 1 then bif x1 == Int.ofNat 0 then some (Sum.inl (x0, IntKind.wrap IntKind.i64 (x1 + Int.ofNat 1), x2, x3, x4, x5, x6, x7, x8, x9, x10, x11, x12, x13, x14, x15, x16, x17, x18, x19, x20, x21, x22, x23, IntKind.wrap IntKind.i64 (x25 + Int.ofNat 1), x25, x26, ())) else bif x1 == Int.ofNat 1 then some (Sum.inl (x0, IntKind.wrap IntKind.i64 (x1 + Int.ofNat 1), x2, x3, x4, x5, x6, x7, x8, x9, x10, x11, x12, x13, x14, x15, x16, x17, x18, x19, x20, x21, x22, x23, x24, IntKind.wrap IntKind.i64 (x25 + Int.ofNat 1), x26, ())) else bif x1 == Int.ofNat 2 then some (Sum.inl (x0, IntKind.wrap IntKind.i64 (x1 + Int.ofNat 1), x2, x3, x4, x5, x6, x7, x8, x9, x10, x11, x12, x13, x14, x15, x16, x17, x18, x19, x20, x21, x22, x23, x24, x25, IntKind.wrap IntKind.i64 (x25 + Int.ofNat 1), ())) else none else bif x1 == Int.ofNat 2 then bif x1 == Int.ofNat 0 then some (Sum.inl (x0, IntKind.wrap IntKind.i64 (x1 + Int.ofNat 1), x2, x3, x4, x5, x6, x7, x8, x9, x10, x11, x12, x13, x14, x15, x16, x17, x18, x19, x20, x21, x22, x23, IntKind.wrap IntKind.i64 (x26 + Int.ofNat 1), x25, x26, ())) else bif x1 == Int.ofNat 1 then some (Sum.inl (x0, IntKind.wrap IntKind.i64 (x1 + Int.ofNat 1), x2, x3, x4, x5, x6, x7, x8, x9, x10, x11, x12, x13, x14, x15, x16, x17, x18, x19, x20, x21, x22, x23, x24, IntKind.wrap IntKind.i64 (x26 + Int.ofNat 1), x26, ())) else bif x1 == Int.ofNat 2 then some (Sum.inl (x0, IntKind.wrap IntKind.i64 (x1 + Int.ofNat 1), x2, x3, x4, x5, x6, x7, x8, x9, x10, x11, x12, x13, x14, x15, x16, x17, x18, x19, x20, x21, x22, x23, x24, x25, IntKind.wrap IntKind.i64 (x26 + Int.ofNat 1), ())) else none else none else bif decide (x1 > x0) then bif x1 == Int.ofNat 0 then some (Sum.inl (x0, IntKind.wrap IntKind.i64 (x1 + Int.ofNat 1), x2, x3, x4, x5, x6, x7, x8, x9, x10, x11, x12, x13, x14, x15, x16, x17, x18, x19, x20, x21, x22, x23, Int.ofNat 0, x25, x26, ())) else bif x1 == Int.ofNat 1 then some (Sum.inl (x0, IntKind.wrap IntKind.i64 (x1 + Int.ofNat 1), x2, x3, x4, x5, x6, x7, x8, x9, x10, x11, x12, x13, x14, x15, x16, x17, x18, x19, x20, x21, x22, x23, x24, Int.ofNat 0, x26, ())) else bif x1 == Int.ofNat 2 then some (Sum.inl (x0, IntKind.wrap IntKind.i64 (x1 + Int.ofNat 1), x2, x3, x4, x5, x6, x7, x8, x9, x10, x11, x12, x13, x14, x15, x16, x17, x18, x19, x20, x21, x22, x23, x24, x25, Int.ofNat 0, ())) else none else some (Sum.inl (x0, IntKind.wrap IntKind.i64 (x1 + Int.ofNat 1), x2, x3, x4, x5, x6, x7, x8, x9, x10, x11, x12, x13, x14, x15, x16, x17, x18, x19, x20, x21, x22, x23, x24, x25, x26, ())) else some (Sum.inr (x2, x3, x4, x5, x6, x7, x8, x9, x10, x11, x12, x13, x14, x15, x16, x17, x18, x19, x20, x21, x22, x23, x24, x25, x26, ())) := by kernel_rfl
theorem F145_eq (x0 x1 x2 : Int) (x3 : ByteArray) (x4 : Int) : F145 (x0, x1, x2, x3, x4, ()) =
 Option.bind (loop B145_0 (x4, Int.ofNat 0, Int.ofNat 0, Int.ofNat 0, (lit []), Int.ofNat 0, Int.ofNat 0, Int.ofNat 0, (lit []), false, false, false, x0, x1, x2, x3, Int.ofNat 0, Int.ofNat 0, Int.ofNat 0, (lit []), false, false, false, x0, x1, x2, ())) fun r => bif decide (r.1 < Int.ofNat 0) then some (r.2.2.2.2.2.2.2.2.2.2.2.2.1, r.2.2.2.2.2.2.2.2.2.2.2.2.2.1, r.2.2.2.2.2.2.2.2.2.2.2.2.2.2.1, r.2.2.2.2.2.2.2.2.2.2.2.2.2.2.2.1, r.2.2.2.2.2.2.2.2.2.2.2.2.2.2.2.2.1, r.2.2.2.2.2.2.2.2.2.2.2.2.2.2.2.2.2.1, r.2.2.2.2.2.2.2.2.2.2.2.2.2.2.2.2.2.2.1, r.2.2.2.2.2.2.2.2.2.2.2.2.2.2.2.2.2.2.2.1, r.2.2.2.2.2.2.2.2.2.2.2.2.2.2.2.2.2.2.2.2.1, r.2.2.2.2.2.2.2.2.2.2.2.2.2.2.2.2.2.2.2.2.2.1, true, ()) else Option.bind (loop B145_1 (r.1, Int.ofNat 0, r.2.1, r.2.2.1, r.2.2.2.1, r.2.2.2.2.1, r.2.2.2.2.2.1, r.2.2.2.2.2.2.1, r.2.2.2.2.2.2.2.1, r.2.2.2.2.2.2.2.2.1, r.2.2.2.2.2.2.2.2.2.1, r.2.2.2.2.2.2.2.2.2.2.1, r.2.2.2.2.2.2.2.2.2.2.2.1, r.2.2.2.2.2.2.2.2.2.2.2.2.1, r.2.2.2.2.2.2.2.2.2.2.2.2.2.1, r.2.2.2.2.2.2.2.2.2.2.2.2.2.2.1, r.2.2.2.2.2.2.2.2.2.2.2.2.2.2.2.1, r.2.2.2.2.2.2.2.2.2.2.2.2.2.2.2.2.1, r.2.2.2.2.2.2.2.2.2.2.2.2.2.2.2.2.2.1, r.2.2.2.2.2.2.2.2.2.2.2.2.2.2.2.2.2.2.1, r.2.2.2.2.2.2.2.2.2.2.2.2.2.2.2.2.2.2.2.1, r.2.2.2.2.2.2.2.2.2.2.2.2.2.2.2.2.2.2.2.2.1, r.2.2.2.2.2.2.2.2.2.2.2.2.2.2.2.2.2.2.2.2.2.1, r.2.2.2.2.2.2.2.2.2.2.2.2.2.2.2.2.2.2.2.2.2.2.1, r.2.2.2.2.2.2.2.2.2.2.2.2.2.2.2.2.2.2.2.2.2.2.2.1, r.2.2.2.2.2.2.2.2.2.2.2.2.2.2.2.2.2.2.2.2.2.2.2.2.1, r.2.2.2.2.2.2.2.2.2.2.2.2.2.2.2.2.2.2.2.2.2.2.2.2.2.1, ())) fun r => some (r.2.2.2.2.2.2.2.2.2.2.2.1, r.2.2.2.2.2.2.2.2.2.2.2.2.1, r.2.2.2.2.2.2.2.2.2.2.2.2.2.1, r.2.2.2.2.2.2.2.2.2.2.2.2.2.2.1, r.2.2.2.2.2.2.2.2.2.2.2.2.2.2.2.2.2.2.2.2.2.2.1, r.2.2.2.2.2.2.2.2.2.2.2.2.2.2.2.2.2.2.2.2.2.2.2.1, r.2.2.2.2.2.2.2.2.2.2.2.2.2.2.2.2.2.2.2.2.2.2.2.2.1, (lit [48]), r.2.2.2.2.2.2.2.2.2.2.2.2.2.2.2.2.2.2.2.1, r.2.2.2.2.2.2.2.2.2.2.2.2.2.2.2.2.2.2.2.2.1, r.2.2.2.2.2.2.2.2.2.2.2.2.2.2.2.2.2.2.2.2.2.1, ()) := by kernel_rfl
theorem B107_0_eq (x0 : ByteArray) (x1 x2 x3 x4 : Int) (x5 : ByteArray) (x6 x7 x8 : Int) (x9 : ByteArray) (x10 x11 x12 : Bool) : B107_0 (x0, x1, x2, x3, x4, x5, x6, x7, x8, x9, x10, x11, x12, ()) =
 bif decide (x1 < Int.ofNat (ByteArray.size x0)) then bif decide (Int.ofNat 0 ≤ x1) && decide (x1 < Int.ofNat (ByteArray.size x0)) then bif !bt x0 x1 == Int.ofNat 46 then some (Sum.inl (x0, IntKind.wrap IntKind.i64 (x1 + Int.ofNat 1), x2, x3, x4, x5, x6, x7, x8, x9, x10, x11, x12, ())) else some (Sum.inr (x0, x1, x2, x3, x4, x5, x6, x7, x8, x9, x10, x11, x12, ())) else none else some (Sum.inr (x0, x1, x2, x3, x4, x5, x6, x7, x8, x9, x10, x11, x12, ())) := by kernel_rfl
theorem F107_eq (x0 : ByteArray) : F107 (x0, ()) =
 bif decide (Int.ofNat (ByteArray.size x0) < Int.ofNat 4) then some (Int.ofNat 0, Int.ofNat 0, Int.ofNat 0, (lit []), Int.ofNat 0, Int.ofNat 0, Int.ofNat 0, (lit []), false, false, false, false, ()) else bif decide (Int.ofNat 0 < Int.ofNat (ByteArray.size x0)) then bif !bt x0 (Int.ofNat 0) == Int.ofNat 118 then some (Int.ofNat 0, Int.ofNat 0, Int.ofNat 0, (lit []), Int.ofNat 0, Int.ofNat 0, Int.ofNat 0, (lit []), false, false, false, false, ()) else bif decide (Int.ofNat 0 ≤ IntKind.wrap IntKind.i64 (Int.ofNat (ByteArray.size x0) - Int.ofNat 2)) && (decide (IntKind.wrap IntKind.i64 (Int.ofNat (ByteArray.size x0) - Int.ofNat 2) ≤ Int.ofNat (ByteArray.size x0)) && decide (Int.ofNat (ByteArray.size x0) ≤ Int.ofNat (ByteArray.size x0))) then bif !bl (ByteArray.extract x0 (Int.toNat (IntKind.wrap IntKind.i64 (Int.ofNat (ByteArray.size x0) - Int.ofNat 2))) (Int.toNat (Int.ofNat (ByteArray.size x0)))) == [46, 120] then some (Int.ofNat 0, Int.ofNat 0, Int.ofNat 0, (lit []), Int.ofNat 0, Int.ofNat 0, Int.ofNat 0, (lit []), false, false, false, false, ()) else bif decide (Int.ofNat 1 ≤ IntKind.wrap IntKind.i64 (Int.ofNat (ByteArray.size x0) - Int.ofNat 2)) && decide (IntKind.wrap IntKind.i64 (Int.ofNat (ByteArray.size x0) - Int.ofNat 2) ≤ Int.ofNat (ByteArray.size x0)) then Option.bind (loop B107_0 (ByteArray.extract x0 1 (Int.toNat (IntKind.wrap IntKind.i64 (Int.ofNat (ByteArray.size x0) - Int.ofNat 2))), Int.ofNat 0, Int.ofNat 0, Int.ofNat 0, Int.ofNat 0, (lit []), Int.ofNat 0, Int.ofNat 0, Int.ofNat 0, (lit []), false, false, false, ())) fun r => bif decide (Int.ofNat 0 ≤ r.2.1) && decide (r.2.1 ≤ Int.ofNat (ByteArray.size r.1)) then Option.bind (F63 (ByteArray.extract r.1 0 (Int.toNat r.2.1), ())) fun r_1 => bif r.2.1 == Int.ofNat (ByteArray.size r.1) then Option.bind (F145 (r_1.1, Int.ofNat 0, Int.ofNat 0, (lit [48]), Int.ofNat 0, ())) fun r => bif r_1.2.1 then some (r.1, r.2.1, r.2.2.1, r.2.2.2.1, r.2.2.2.2.1, r.2.2.2.2.2.1, r.2.2.2.2.2.2.1, r.2.2.2.2.2.2.2.1, r.2.2.2.2.2.2.2.2.1, r.2.2.2.2.2.2.2.2.2.1, r.2.2.2.2.2.2.2.2.2.2.1, decide (r_1.1 ≤ Int.ofNat 999999), ()) else some (r.1, r.2.1, r.2.2.1, r.2.2.2.1, r.2.2.2.2.1, r.2.2.2.2.2.1, r.2.2.2.2.2.2.1, r.2.2.2.2.2.2.2.1, r.2.2.2.2.2.2.2.2.1, r.2.2.2.2.2.2.2.2.2.1, r.2.2.2.2.2.2.2.2.2.2.1, false, ()) else bif decide (Int.ofNat 0 ≤ IntKind.wrap IntKind.i64 (r.2.1 + Int.ofNat 1)) && (decide (IntKind.wrap IntKind.i64 (r.2.1 + Int.ofNat 1) ≤ Int.ofNat (ByteArray.size r.1)) && decide (Int.ofNat (ByteArray.size r.1) ≤ Int.ofNat (ByteArray.size r.1))) then Option.bind (F63 (ByteArray.extract r.1 (Int.toNat (IntKind.wrap IntKind.i64 (r.2.1 + Int.ofNat 1))) (Int.toNat (Int.ofNat (ByteArray.size r.1))), ())) fun r => Option.bind (F145 (r_1.1, r.1, Int.ofNat 0, (lit [48]), Int.ofNat 1, ())) fun r_2 => bif r_1.2.1 then bif r.2.1 then some (r_2.1, r_2.2.1, r_2.2.2.1, r_2.2.2.2.1, r_2.2.2.2.2.1, r_2.2.2.2.2.2.1, r_2.2.2.2.2.2.2.1, r_2.2.2.2.2.2.2.2.1, r_2.2.2.2.2.2.2.2.2.1, r_2.2.2.2.2.2.2.2.2.2.1, r_2.2.2.2.2.2.2.2.2.2.2.1, decide ((bif decide (r.1 > r_1.1) then r.1 else r_1.1) ≤ Int.ofNat 999999), ()) else some (r_2.1, r_2.2.1, r_2.2.2.1, r_2.2.2.2.1, r_2.2.2.2.2.1, r_2.2.2.2.2.2.1, r_2.2.2.2.2.2.2.1, r_2.2.2.2.2.2.2.2.1, r_2.2.2.2.2.2.2.2.2.1, r_2.2.2.2.2.2.2.2.2.2.1, r_2.2.2.2.2.2.2.2.2.2.2.1, false, ()) else some (r_2.1, r_2.2.1, r_2.2.2.1, r_2.2.2.2.1, r_2.2.2.2.2.1, r_2.2.2.2.2.2.1, r_2.2.2.2.2.2.2.1, r_2.2.2.2.2.2.2.2.1, r_2.2.2.2.2.2.2.2.2.1, r_2.2.2.2.2.2.2.2.2.2.1, r_2.2.2.2.2.2.2.2.2.2.2.1, false, ()) else none else none else none else none else none := by kernel_rfl
theorem F108_eq (x0 : ByteArray) (x1 x2 x3 : Int) (x4 : ByteArray) : F108 (x0, x1, x2, x3, x4, ()) =
 bif bl x0 == [] then bif bl x0 == [] then some ([(x1, x2, x3, x4, x1, x2, x3, x4, false, true, false, ())], ()) else bif bl x0 == [33, 61] then Option.bind (F22 ([(x1, x2, x3, x4, x1, x2, x3, x4, false, true, false, ())], ())) fun r => some (r.1, ()) else bif bl x0 == [62] then some ([(x1, x2, x3, x4, Int.ofNat 0, Int.ofNat 0, Int.ofNat 0, (lit []), true, false, true, ())], ()) else bif bl x0 == [62, 61] then some ([(x1, x2, x3, x4, Int.ofNat 0, Int.ofNat 0, Int.ofNat 0, (lit []), false, false, true, ())], ()) else bif bl x0 == [60] then Option.bind (F27 ()) fun r => some ([(r.1, r.2.1, r.2.2.1, r.2.2.2.1, x1, x2, x3, x4, false, false, false, ())], ()) else bif bl x0 == [60, 61] then Option.bind (F27 ()) fun r => some ([(r.1, r.2.1, r.2.2.1, r.2.2.2.1, x1, x2, x3, x4, false, true, false, ())], ()) else bif bl x0 == [126] then Option.bind (F145 (x1, x2, x3, x4, Int.ofNat 1, ())) fun r => some ([(r.1, r.2.1, r.2.2.1, r.2.2.2.1, r.2.2.2.2.1, r.2.2.2.2.2.1, r.2.2.2.2.2.2.1, r.2.2.2.2.2.2.2.1, r.2.2.2.2.2.2.2.2.1, r.2.2.2.2.2.2.2.2.2.1, r.2.2.2.2.2.2.2.2.2.2.1, ())], ()) else bif decide (x1 > Int.ofNat 0) then Option.bind (F145 (x1, x2, x3, x4, Int.ofNat 0, ())) fun r => some ([(r.1, r.2.1, r.2.2.1, r.2.2.2.1, r.2.2.2.2.1, r.2.2.2.2.2.1, r.2.2.2.2.2.2.1, r.2.2.2.2.2.2.2.1, r.2.2.2.2.2.2.2.2.1, r.2.2.2.2.2.2.2.2.2.1, r.2.2.2.2.2.2.2.2.2.2.1, ())], ()) else bif decide (x2 > Int.ofNat 0) then Option.bind (F145 (x1, x2, x3, x4, Int.ofNat 1, ())) fun r => some ([(r.1, r.2.1, r.2.2.1, r.2.2.2.1, r.2.2.2.2.1, r.2.2.2.2.2.1, r.2.2.2.2.2.2.1, r.2.2.2.2.2.2.2.1, r.2.2.2.2.2.2.2.2.1, r.2.2.2.2.2.2.2.2.2.1, r.2.2.2.2.2.2.2.2.2.2.1, ())], ()) else Option.bind (F145 (x1, x2, x3, x4, Int.ofNat 2, ())) fun r => some ([(r.1, r.2.1, r.2.2.1, r.2.2.2.1, r.2.2.2.2.1, r.2.2.2.2.2.1, r.2.2.2.2.2.2.1, r.2.2.2.2.2.2.2.1, r.2.2.2.2.2.2.2.2.1, r.2.2.2.2.2.2.2.2.2.1, r.2.2.2.2.2.2.2.2.2.2.1, ())], ()) else bif bl x0 == [61] then some ([(x1, x2, x3, x4, x1, x2, x3, x4, false, true, false, ())], ()) else bif bl x0 == [33, 61] then Option.bind (F22 ([(x1, x2, x3, x4, x1, x2, x3, x4, false, true, false, ())], ())) fun r => some (r.1, ()) else bif bl x0 == [62] then some ([(x1, x2, x3, x4, Int.ofNat 0, Int.ofNat 0, Int.ofNat 0, (lit []), true, false, true, ())], ()) else bif bl x0 == [62, 61] then some ([(x1, x2, x3, x4, Int.ofNat 0, Int.ofNat 0, Int.ofNat 0, (lit []), false, false, true, ())], ()) else bif bl x0 == [60] then Option.bind (F27 ()) fun r => some ([(r.1, r.2.1, r.2.2.1, r.2.2.2.1, x1, x2, x3, x4, false, false, false, ())], ()) else bif bl x0 == [60, 61] then Option.bind (F27 ()) fun r => some ([(r.1, r.2.1, r.2.2.1, r.2.2.2.1, x1, x2, x3, x4, false, true, false, ())], ()) else bif bl x0 == [126] then Option.bind (F145 (x1, x2, x3, x4, Int.ofNat 1, ())) fun r => some ([(r.1, r.2.1, r.2.2.1, r.2.2.2.1, r.2.2.2.2.1, r.2.2.2.2.2.1, r.2.2.2.2.2.2.1, r.2.2.2.2.2.2.2.1, r.2.2.2.2.2.2.2.2.1, r.2.2.2.2.2.2.2.2.2.1, r.2.2.2.2.2.2.2.2.2.2.1, ())], ()) else bif decide (x1 > Int.ofNat 0) then Option.bind (F145 (x1, x2, x3, x4, Int.ofNat 0, ())) fun r => some ([(r.1, r.2.1, r.2.2.1, r.2.2.2.1, r.2.2.2.2.1, r.2.2.2.2.2.1, r.2.2.2.2.2.2.1, r.2.2.2.2.2.2.2.1, r.2.2.2.2.2.2.2.2.1, r.2.2.2.2.2.2.2.2.2.1, r.2.2.2.2.2.2.2.2.2.2.1, ())], ()) else bif decide (x2 > Int.ofNat 0) then Option.bind (F145 (x1, x2, x3, x4, Int.ofNat 1, ())) fun r => some ([(r.1, r.2.1, r.2.2.1, r.2.2.2.1, r.2.2.2.2.1, r.2.2.2.2.2.1, r.2.2.2.2.2.2.1, r.2.2.2.2.2.2.2.1, r.2.2.2.2.2.2.2.2.1, r.2.2.2.2.2.2.2.2.2.1, r.2.2.2.2.2.2.2.2.2.2.1, ())], ()) else Option.bind (F145 (x1, x2, x3, x4, Int.ofNat 2, ())) fun r => some ([(r.1, r.2.1, r.2.2.1, r.2.2.2.1, r.2.2.2.2.1, r.2.2.2.2.2.1, r.2.2.2.2.2.2.1, r.2.2.2.2.2.2.2.1, r.2.2.2.2.2.2.2.2.1, r.2.2.2.2.2.2.2.2.2.1, r.2.2.2.2.2.2.2.2.2.2.1, ())], ()) := by kernel_rfl
theorem B86_0_eq (x0 : ByteArray) (x1 : Int) (x2 : List ByteArray) : B86_0 (x0, x1, x2, ()) =
 bif decide (x1 < Int.ofNat (List.length x2)) then bif decide (Int.ofNat 0 ≤ x1) then Option.bind x2[Int.toNat x1]? fun y => bif decide (Int.ofNat (ByteArray.size x0) < Int.ofNat (ByteArray.size y)) then some (Sum.inl (x0, IntKind.wrap IntKind.i64 (x1 + Int.ofNat 1), x2, ())) else bif decide (Int.ofNat 0 ≤ Int.ofNat (ByteArray.size y)) && decide (Int.ofNat (ByteArray.size y) ≤ Int.ofNat (ByteArray.size x0)) then bif decide (Int.ofNat 0 ≤ x1) then Option.bind x2[Int.toNat x1]? fun y_1 => bif !bl (ByteArray.extract x0 0 (Int.toNat (Int.ofNat (ByteArray.size y)))) == bl y_1 then some (Sum.inl (x0, IntKind.wrap IntKind.i64 (x1 + Int.ofNat 1), x2, ())) else bif decide (Int.ofNat 0 ≤ Int.ofNat (ByteArray.size y)) && (decide (Int.ofNat (ByteArray.size y) ≤ Int.ofNat (ByteArray.size x0)) && decide (Int.ofNat (ByteArray.size x0) ≤ Int.ofNat (ByteArray.size x0))) then Option.bind (F37 (ByteArray.extract x0 (Int.toNat (Int.ofNat (ByteArray.size y))) (Int.toNat (Int.ofNat (ByteArray.size x0))), ())) fun r => bif !r.2.2.2.2.1 then some (Sum.inr (Sum.inl ([], false, false, ()))) else bif decide (Int.ofNat 0 ≤ x1) then Option.bind x2[Int.toNat x1]? fun y => Option.bind (F108 (y, r.1, r.2.1, r.2.2.1, r.2.2.2.1, ())) fun r => Option.bind (F36 (r.1, ())) fun r => bif decide (Int.ofNat 0 ≤ x1) then Option.bind x2[Int.toNat x1]? fun y => some (Sum.inr (Sum.inl (r.1, bl y == [], true, ()))) else none else none else none else none else none else none else some (Sum.inr (Sum.inr ())) := by kernel_rfl
theorem F86_eq (x0 : ByteArray) : F86 (x0, ()) =
 bif bl x0 == [42] then Option.bind (F22 ([], ())) fun r => some (r.1, false, true, ()) else Option.bind (F107 (x0, ())) fun r => bif r.2.2.2.2.2.2.2.2.2.2.2.1 then Option.bind (F36 ([(r.1, r.2.1, r.2.2.1, r.2.2.2.1, r.2.2.2.2.1, r.2.2.2.2.2.1, r.2.2.2.2.2.2.1, r.2.2.2.2.2.2.2.1, r.2.2.2.2.2.2.2.2.1, r.2.2.2.2.2.2.2.2.2.1, r.2.2.2.2.2.2.2.2.2.2.1, ())], ())) fun r => some (r.1, false, true, ()) else Option.bind (loop B86_0 (x0, Int.ofNat 0, [(lit [33, 61]), (lit [62, 61]), (lit [60, 61]), (lit [61]), (lit [62]), (lit [60]), (lit [94]), (lit [126]), (lit [])], ())) fun r => Sum.elim (fun p => some (p.1, p.2.1, p.2.2.1, ())) (fun p => some ([], false, false, ())) r := by kernel_rfl
theorem B53_0_eq (x0 : List R7) (x1 : Int) (x2 : ByteArray) (x3 : Int) : B53_0 (x0, x1, x2, x3, ()) =
 bif decide (x1 > Int.ofNat 0) then bif decide (x3 ≥ Int.ofNat (ByteArray.size x2)) then some (Sum.inr (x0, Int.ofNat 0, true, x2, x3, ())) else bif decide (Int.ofNat 0 ≤ x3) && decide (x3 < Int.ofNat (ByteArray.size x2)) then bif bt x2 x3 == Int.ofNat 124 then some (Sum.inr (x0, Int.ofNat 0, true, x2, x3, ())) else Option.bind (F85 (x2, x3, ())) fun r => Option.bind (F86 (r.1, ())) fun r_1 => bif !r_1.2.2.1 then some (Sum.inr ([], r.2.1, false, r.2.2.1, r.2.2.2.1, ())) else bif r_1.2.1 then bif decide (r.2.2.2.1 < Int.ofNat (ByteArray.size r.2.2.1)) then bif decide (Int.ofNat 0 ≤ r.2.2.2.1) && decide (r.2.2.2.1 < Int.ofNat (ByteArray.size r.2.2.1)) then bif bt r.2.2.1 r.2.2.2.1 == Int.ofNat 45 then Option.bind (F85 (r.2.2.1, r.2.2.2.1, ())) fun r => Option.bind (F85 (r.2.2.1, r.2.2.2.1, ())) fun r_2 => Option.bind (F37 (r_2.1, ())) fun r_3 => bif !bl r.1 == [45] then some (Sum.inr ([], r.2.1, false, r_2.2.2.1, r_2.2.2.2.1, ())) else bif !r_3.2.2.2.2.1 then some (Sum.inr ([], r_2.2.1, false, r_2.2.2.1, r_2.2.2.2.1, ())) else Option.bind r_1.1[0]? fun y => Option.bind (F36 ([(y.1, y.2.1, y.2.2.1, y.2.2.2.1, r_3.1, r_3.2.1, r_3.2.2.1, r_3.2.2.2.1, false, true, false, ())], ())) fun r => Option.bind (F20 (x0, r.1, ())) fun r => some (Sum.inl (r.1, IntKind.wrap IntKind.i64 (x1 + Int.ofNat 1), r_2.2.2.1, r_2.2.2.2.1, ())) else Option.bind (F20 (x0, r_1.1, ())) fun r_2 => some (Sum.inl (r_2.1, IntKind.wrap IntKind.i64 (x1 + Int.ofNat 1), r.2.2.1, r.2.2.2.1, ())) else none else Option.bind (F20 (x0, r_1.1, ())) fun r_2 => some (Sum.inl (r_2.1, IntKind.wrap IntKind.i64 (x1 + Int.ofNat 1), r.2.2.1, r.2.2.2.1, ())) else Option.bind (F20 (x0, r_1.1, ())) fun r_2 => some (Sum.inl (r_2.1, IntKind.wrap IntKind.i64 (x1 + Int.ofNat 1), r.2.2.1, r.2.2.2.1, ())) else none else Option.bind (F85 (x2, x3, ())) fun r => Option.bind (F86 (r.1, ())) fun r_1 => bif !r_1.2.2.1 then some (Sum.inr ([], r.2.1, false, r.2.2.1, r.2.2.2.1, ())) else bif r_1.2.1 then bif decide (r.2.2.2.1 < Int.ofNat (ByteArray.size r.2.2.1)) then bif decide (Int.ofNat 0 ≤ r.2.2.2.1) && decide (r.2.2.2.1 < Int.ofNat (ByteArray.size r.2.2.1)) then bif bt r.2.2.1 r.2.2.2.1 == Int.ofNat 45 then Option.bind (F85 (r.2.2.1, r.2.2.2.1, ())) fun r => Option.bind (F85 (r.2.2.1, r.2.2.2.1, ())) fun r_2 => Option.bind (F37 (r_2.1, ())) fun r_3 => bif !bl r.1 == [45] then some (Sum.inr ([], r.2.1, false, r_2.2.2.1, r_2.2.2.2.1, ())) else bif !r_3.2.2.2.2.1 then some (Sum.inr ([], r_2.2.1, false, r_2.2.2.1, r_2.2.2.2.1, ())) else Option.bind r_1.1[0]? fun y => Option.bind (F36 ([(y.1, y.2.1, y.2.2.1, y.2.2.2.1, r_3.1, r_3.2.1, r_3.2.2.1, r_3.2.2.2.1, false, true, false, ())], ())) fun r => Option.bind (F20 (x0, r.1, ())) fun r => some (Sum.inl (r.1, IntKind.wrap IntKind.i64 (x1 + Int.ofNat 1), r_2.2.2.1, r_2.2.2.2.1, ())) else Option.bind (F20 (x0, r_1.1, ())) fun r_2 => some (Sum.inl (r_2.1, IntKind.wrap IntKind.i64 (x1 + Int.ofNat 1), r.2.2.1, r.2.2.2.1, ())) else none else Option.bind (F20 (x0, r_1.1, ())) fun r_2 => some (Sum.inl (r_2.1, IntKind.wrap IntKind.i64 (x1 + Int.ofNat 1), r.2.2.1, r.2.2.2.1, ())) else Option.bind (F20 (x0, r_1.1, ())) fun r_2 => some (Sum.inl (r_2.1, IntKind.wrap IntKind.i64 (x1 + Int.ofNat 1), r.2.2.1, r.2.2.2.1, ())) := by kernel_rfl
theorem F53_eq (x0 : ByteArray) (x1 : Int) : F53 (x0, x1, ()) = Option.bind (F22 ([], ())) fun r => Option.bind (F84 (x0, x1, ())) fun r_1 => Option.bind (loop B53_0 (r.1, Int.ofNat 0, r_1.1, r_1.2.1, ())) fun r => some (r.1, r.2.1, r.2.2.1, r.2.2.2.1, r.2.2.2.2.1, ()) := by kernel_rfl
theorem B31_0_eq (x0 : ByteArray) (x1 : List R7) (x2 : ByteArray) (x3 : Int) : B31_0 (x0, x1, x2, x3, ()) =
 Option.bind (F53 (x2, x3, ())) fun r => bif !r.2.2.1 then some (Sum.inr ([], r.2.1, Int.ofNat 6, ())) else Option.bind (F21 (x1, r.1, ())) fun r_1 => bif decide (r.2.2.2.2.1 ≥ Int.ofNat (ByteArray.size x0)) then some (Sum.inr (r_1.1, Int.ofNat 0, Int.ofNat 0, ())) else bif decide (IntKind.wrap IntKind.i64 (r.2.2.2.2.1 + Int.ofNat 1) ≥ Int.ofNat (ByteArray.size x0)) then some (Sum.inr ([], IntKind.wrap IntKind.i64 (r.2.2.2.2.1 + Int.ofNat 1), Int.ofNat 6, ())) else bif decide (Int.ofNat 0 ≤ IntKind.wrap IntKind.i64 (r.2.2.2.2.1 + Int.ofNat 1)) && decide (IntKind.wrap IntKind.i64 (r.2.2.2.2.1 + Int.ofNat 1) < Int.ofNat (ByteArray.size x0)) then bif !bt x0 (IntKind.wrap IntKind.i64 (r.2.2.2.2.1 + Int.ofNat 1)) == Int.ofNat 124 then some (Sum.inr ([], IntKind.wrap IntKind.i64 (r.2.2.2.2.1 + Int.ofNat 1), Int.ofNat 6, ())) else some (Sum.inl (x0, r_1.1, r.2.2.2.1, IntKind.wrap IntKind.i64 (r.2.2.2.2.1 + Int.ofNat 2), ())) else none := by kernel_rfl
theorem F31_eq (x0 : ByteArray) : F31 (x0, ()) = Option.bind (loop B31_0 (x0, [], x0, Int.ofNat 0, ())) fun r => some (r.1, r.2.1, r.2.2.1, ()) := by kernel_rfl
theorem B35_0_eq (x0 : List R7) (x1 : ByteArray) (x2 : Int) : B35_0 (x0, x1, x2, ()) =
 bif decide (x2 < Int.ofNat (List.length x0)) then bif decide (Int.ofNat 0 ≤ x2) then Option.bind x0[Int.toNat x2]? fun y => bif decide (x2 > Int.ofNat 0) then bif fitsS x1 (lit [32, 124, 124, 32]) then bif y.2.2.2.2.2.2.2.2.1 then bif fitsS (x1 ++ (lit [32, 124, 124, 32])) (lit [40]) then Option.bind (F33 (y.1, y.2.1, y.2.2.1, y.2.2.2.1, ())) fun r => bif fitsS (x1 ++ (lit [32, 124, 124, 32]) ++ (lit [40])) r.1 then bif fitsS (x1 ++ (lit [32, 124, 124, 32]) ++ (lit [40]) ++ r.1) (lit [44]) then bif y.2.2.2.2.2.2.2.2.2.2.1 then bif fitsS (x1 ++ (lit [32, 124, 124, 32]) ++ (lit [40]) ++ r.1 ++ (lit [44])) (lit [41]) then some (Sum.inl (x0, x1 ++ (lit [32, 124, 124, 32]) ++ (lit [40]) ++ r.1 ++ (lit [44]) ++ (lit [41]), IntKind.wrap IntKind.i64 (x2 + Int.ofNat 1), ())) else none else bif y.2.2.2.2.2.2.2.2.2.1 then Option.bind (F33 (y.2.2.2.2.1, y.2.2.2.2.2.1, y.2.2.2.2.2.2.1, y.2.2.2.2.2.2.2.1, ())) fun r_1 => bif fitsS (x1 ++ (lit [32, 124, 124, 32]) ++ (lit [40]) ++ r.1 ++ (lit [44])) r_1.1 then bif fitsS (x1 ++ (lit [32, 124, 124, 32]) ++ (lit [40]) ++ r.1 ++ (lit [44]) ++ r_1.1) (lit [93]) then some (Sum.inl (x0, x1 ++ (lit [32, 124, 124, 32]) ++ (lit [40]) ++ r.1 ++ (lit [44]) ++ r_1.1 ++ (lit [93]), IntKind.wrap IntKind.i64 (x2 + Int.ofNat 1), ())) else none else none else Option.bind (F33 (y.2.2.2.2.1, y.2.2.2.2.2.1, y.2.2.2.2.2.2.1, y.2.2.2.2.2.2.2.1, ())) fun r_1 => bif fitsS (x1 ++ (lit [32, 124, 124, 32]) ++ (lit [40]) ++ r.1 ++ (lit [44])) r_1.1 then bif fitsS (x1 ++ (lit [32, 124, 124, 32]) ++ (lit [40]) ++ r.1 ++ (lit [44]) ++ r_1.1) (lit [41]) then some (Sum.inl (x0, x1 ++ (lit [32, 124, 124, 32]) ++ (lit [40]) ++ r.1 ++ (lit [44]) ++ r_1.1 ++ (lit [41]), IntKind.wrap IntKind.i64 (x2 + Int.ofNat 1), ())) else none else none else none else none else none else bif fitsS (x1 ++ (lit [32, 124, 124, 32])) (lit [91]) then Option.bind (F33 (y.1, y.2.1, y.2.2.1, y.2.2.2.1, ())) fun r => bif fitsS (x1 ++ (lit [32, 124, 124, 32]) ++ (lit [91])) r.1 then bif fitsS (x1 ++ (lit [32, 124, 124, 32]) ++ (lit [91]) ++ r.1) (lit [44]) then bif y.2.2.2.2.2.2.2.2.2.2.1 then bif fitsS (x1 ++ (lit [32, 124, 124, 32]) ++ (lit [91]) ++ r.1 ++ (lit [44])) (lit [41]) then some (Sum.inl (x0, x1 ++ (lit [32, 124, 124, 32]) ++ (lit [91]) ++ r.1 ++ (lit [44]) ++ (lit [41]), IntKind.wrap IntKind.i64 (x2 + Int.ofNat 1), ())) else none else bif y.2.2.2.2.2.2.2.2.2.1 then Option.bind (F33 (y.2.2.2.2.1, y.2.2.2.2.2.1, y.2.2.2.2.2.2.1, y.2.2.2.2.2.2.2.1, ())) fun r_1 => bif fitsS (x1 ++ (lit [32, 124, 124, 32]) ++ (lit [91]) ++ r.1 ++ (lit [44])) r_1.1 then bif fitsS (x1 ++ (lit [32, 124, 124, 32]) ++ (lit [91]) ++ r.1 ++ (lit [44]) ++ r_1.1) (lit [93]) then some (Sum.inl (x0, x1 ++ (lit [32, 124, 124, 32]) ++ (lit [91]) ++ r.1 ++ (lit [44]) ++ r_1.1 ++ (lit [93]), IntKind.wrap IntKind.i64 (x2 + Int.ofNat 1), ())) else none else none else Option.bind (F33 (y.2.2.2.2.1, y.2.2.2.2.2.1, y.2.2.2.2.2.2.1, y.2.2.2.2.2.2.2.1, ())) fun r_1 => bif fitsS (x1 ++ (lit [32, 124, 124, 32]) ++ (lit [91]) ++ r.1 ++ (lit [44])) r_1.1 then bif fitsS (x1 ++ (lit [32, 124, 124, 32]) ++ (lit [91]) ++ r.1 ++ (lit [44]) ++ r_1.1) (lit [41]) then some (Sum.inl (x0, x1 ++ (lit [32, 124, 124, 32]) ++ (lit [91]) ++ r.1 ++ (lit [44]) ++ r_1.1 ++ (lit [41]), IntKind.wrap IntKind.i64 (x2 + Int.ofNat 1), ())) else none else none else none else none else none else none else bif y.2.2.2.2.2.2.2.2.1 then bif fitsS x1 (lit [40]) then Option.bind (F33 (y.1, y.2.1, y.2.2.1, y.2.2.2.1, ())) fun r => bif fitsS (x1 ++ (lit [40])) r.1 then bif fitsS (x1 ++ (lit [40]) ++ r.1) (lit [44]) then bif y.2.2.2.2.2.2.2.2.2.2.1 then bif fitsS (x1 ++ (lit [40]) ++ r.1 ++ (lit [44])) (lit [41]) then some (Sum.inl (x0, x1 ++ (lit [40]) ++ r.1 ++ (lit [44]) ++ (lit [41]), IntKind.wrap IntKind.i64 (x2 + Int.ofNat 1), ())) else none else bif y.2.2.2.2.2.2.2.2.2.1 then Option.bind (F33 (y.2.2.2.2.1, y.2.2.2.2.2.1, y.2.2.2.2.2.2.1, y.2.2.2.2.2.2.2.1, ())) fun r_1 => bif fitsS (x1 ++ (lit [40]) ++ r.1 ++ (lit [44])) r_1.1 then bif fitsS (x1 ++ (lit [40]) ++ r.1 ++ (lit [44]) ++ r_1.1) (lit [93]) then some (Sum.inl (x0, x1 ++ (lit [40]) ++ r.1 ++ (lit [44]) ++ r_1.1 ++ (lit [93]), IntKind.wrap IntKind.i64 (x2 + Int.ofNat 1), ())) else none else none else Option.bind (F33 (y.2.2.2.2.1, y.2.2.2.2.2.1, y.2.2.2.2.2.2.1, y.2.2.2.2.2.2.2.1, ())) fun r_1 => bif fitsS (x1 ++ (lit [40]) ++ r.1 ++ (lit [44])) r_1.1 then bif fitsS (x1 ++ (lit [40]) ++ r.1 ++ (lit [44]) ++ r_1.1) (lit [41]) then some (Sum.inl (x0, x1 ++ (lit [40]) ++ r.1 ++ (lit [44]) ++ r_1.1 ++ (lit [41]), IntKind.wrap IntKind.i64 (x2 + Int.ofNat 1), ())) else none else none else none else none else none else bif fitsS x1 (lit [91]) then Option.bind (F33 (y.1, y.2.1, y.2.2.1, y.2.2.2.1, ())) fun r => bif fitsS (x1 ++ (lit [91])) r.1 then bif fitsS (x1 ++ (lit [91]) ++ r.1) (lit [44]) then bif y.2.2.2.2.2.2.2.2.2.2.1 then bif fitsS (x1 ++ (lit [91]) ++ r.1 ++ (lit [44])) (lit [41]) then some (Sum.inl (x0, x1 ++ (lit [91]) ++ r.1 ++ (lit [44]) ++ (lit [41]), IntKind.wrap IntKind.i64 (x2 + Int.ofNat 1), ())) else none else bif y.2.2.2.2.2.2.2.2.2.1 then Option.bind (F33 (y.2.2.2.2.1, y.2.2.2.2.2.1, y.2.2.2.2.2.2.1, y.2.2.2.2.2.2.2.1, ())) fun r_1 => bif fitsS (x1 ++ (lit [91]) ++ r.1 ++ (lit [44])) r_1.1 then bif fitsS (x1 ++ (lit [91]) ++ r.1 ++ (lit [44]) ++ r_1.1) (lit [93]) then some (Sum.inl (x0, x1 ++ (lit [91]) ++ r.1 ++ (lit [44]) ++ r_1.1 ++ (lit [93]), IntKind.wrap IntKind.i64 (x2 + Int.ofNat 1), ())) else none else none else Option.bind (F33 (y.2.2.2.2.1, y.2.2.2.2.2.1, y.2.2.2.2.2.2.1, y.2.2.2.2.2.2.2.1, ())) fun r_1 => bif fitsS (x1 ++ (lit [91]) ++ r.1 ++ (lit [44])) r_1.1 then bif fitsS (x1 ++ (lit [91]) ++ r.1 ++ (lit [44]) ++ r_1.1) (lit [41]) then some (Sum.inl (x0, x1 ++ (lit [91]) ++ r.1 ++ (lit [44]) ++ r_1.1 ++ (lit [41]), IntKind.wrap IntKind.i64 (x2 + Int.ofNat 1), ())) else none else none else none else none else none else none else some (Sum.inr (x1, ())) := by kernel_rfl
theorem F35_eq (x0 : List R7) : F35 (x0, ()) = bif Int.ofNat (List.length x0) == Int.ofNat 0 then some ((lit [45]), ()) else Option.bind (loop B35_0 (x0, (lit []), Int.ofNat 0, ())) fun r => some (r.1, ()) := by kernel_rfl
theorem F72o_eq (x0 : List R7) : F72o (x0, ()) = bif decide (Int.ofNat 0 ≤ Int.ofNat (List.length x0)) && (decide (Int.ofNat (List.length x0) ≤ Int.ofNat (List.length x0)) && decide (Int.ofNat (List.length x0) ≤ Int.ofNat (List.length x0))) then some (0, 0 + Int.toNat (Int.ofNat (List.length x0)), x0, ()) else none := by kernel_rfl
end Go.Vx.Z
/-! strings.Split at a dot; texts held against one another. -/
namespace Go.Vx
open Go
set_option linter.unusedVariables false
theorem xIndexByte_eq (s : ByteArray) (c : Int) : xIndexByte s c = Lib.indexByte (bs s) c.toNat.toUInt8 := Lib.firstIdx_eq s c.toNat.toUInt8
theorem xCount_eq (s : ByteArray) (c : Int) : xCount s c = (((bs s).count c.toNat.toUInt8 : Nat) : Int) := by
  unfold xCount
  rw [Lib.foldl_data, Lib.count_foldl]
  simp [Lib.countByte, bs]
def splitB (c : UInt8) : List UInt8 → List (List UInt8)
  | [] => [[]]
  | x :: l => if x == c then [] :: splitB c l else match splitB c l with
    | [] => [[x]]
    | w :: ws => (x :: w) :: ws
theorem splitB_ne (c : UInt8) : ∀ l, splitB c l ≠ []
  | [] => by simp [splitB]
  | x :: l => by
    unfold splitB
    split
    · simp
    · split <;> simp
theorem index_no {c : UInt8} : ∀ {l : List UInt8}, Lib.indexByte l c = -1 → splitB c l = [l] ∧ l.count c = 0
  | [], _ => ⟨rfl, rfl⟩
  | x :: l, h => by
    unfold Lib.indexByte at h
    split at h
    · cases h
    · rename_i hx
      split at h
      · rename_i hl
        obtain ⟨h1, h2⟩ := index_no (l := l) (by simpa using hl)
        unfold splitB
        rw [if_neg hx, h1]
        exact ⟨rfl, by rw [List.count_cons, h2]; simp [hx]⟩
      · have := Lib.indexByte_ge l c
        rename_i hl
        have hl' : Lib.indexByte l c ≠ -1 := by simpa using hl
        omega
theorem index_yes {c : UInt8} : ∀ {l : List UInt8}, Lib.indexByte l c ≠ -1 → ∃ k : Nat, Lib.indexByte l c = k ∧ k < l.length ∧ splitB c l = l.take k :: splitB c (l.drop (k + 1)) ∧ l.count c = (l.drop (k + 1)).count c + 1
  | [], h => absurd rfl h
  | x :: l, h => by
    unfold Lib.indexByte at h ⊢
    split
    · rename_i hx
      refine ⟨0, rfl, by simp, ?_, ?_⟩
      · conv => lhs; unfold splitB
        rw [if_pos hx]
        simp
      · rw [List.count_cons]; simp [hx]
    · rename_i hx
      rw [if_neg hx] at h
      split
      · rename_i hl; rw [if_pos hl] at h; exact absurd rfl h
      · rename_i hl
        obtain ⟨k, h1, h2, h3, h4⟩ := index_yes (l := l) (c := c) (by simpa using hl)
        refine ⟨k + 1, by rw [h1]; rfl, by simp; omega, ?_, ?_⟩
        · conv => lhs; unfold splitB
          rw [if_neg hx, h3]
          simp
        · rw [List.count_cons, h4]; simp [hx]
theorem splitB_length (c : UInt8) : ∀ l, (splitB c l).length = l.count c + 1
  | [] => rfl
  | x :: l => by
    have ih := splitB_length c l
    unfold splitB
    rw [List.count_cons]
    split
    · rename_i hx; simp [ih, hx]
    · rename_i hx
      have hne := splitB_ne c l
      cases hs : splitB c l with
      | nil => exact absurd hs hne
      | cons w ws => rw [hs] at ih; simp [hx] at ih ⊢; exact ih
namespace Z
def dot : ByteArray := lit [46]
/-- Split at dots. -/
def splitDot (s : ByteArray) : List ByteArray := (splitB 46 (bs s)).map lit
theorem lit_bs (s : ByteArray) : lit (bs s) = s := bs_inj rfl
theorem F165_dot (s : ByteArray) : F165 (s, dot, ()) = some (Lib.indexByte (bs s) 46, ()) := by
  rw [F165_eq, F162_eq]
  have h1 : (Int.ofNat (ByteArray.size dot) == Int.ofNat 0) = false := rfl
  have h2 : (Int.ofNat (ByteArray.size dot) == Int.ofNat 1) = true := rfl
  have h3 : decide (Int.ofNat 0 < Int.ofNat (ByteArray.size dot)) = true := rfl
  rw [h1, h2, h3, F161_eq, xIndexByte_eq]
  simp only [cond_false, cond_true, Option.bind_some]
  cases hd : (bl dot == bl s) with
  | false => rfl
  | true =>
    have : bl dot = bl s := by simpa using hd
    rw [bs_toList, bs_toList] at this
    rw [← this]
    rfl
theorem split_inv (s : ByteArray) (n : Nat) (hn : n ≤ 1099511627776) : ∀ (k : Nat) (r : ByteArray) (a : List ByteArray) (i : Nat), k = (bs r).count 46 → r.size ≤ 1099511627776 → i + k = n → a.length = n + 1 → (a.take i).map bs ++ splitB 46 (bs r) = splitB 46 (bs s) →
    ∃ r' a', loop B139_0 (r, dot, (0 : Int), (n : Int), (i : Int), a, ()) = some (r', (n : Int), a', ()) ∧ a'.length = n + 1 ∧ (a'.take n).map bs ++ [bs r'] = splitB 46 (bs s)
  | 0, r, a, i, hk, hr, hi, ha, hs => by
    obtain rfl : i = n := by omega
    have hno : Lib.indexByte (bs r) 46 = -1 := by
      by_cases h : Lib.indexByte (bs r) 46 = -1
      · exact h
      · obtain ⟨_, _, _, _, h4⟩ := index_yes h
        omega
    refine ⟨r, a, loop_end ?_, ha, by rw [← hs, (index_no hno).1]⟩
    rw [B139_0_eq]
    have : decide ((i : Int) < (i : Int)) = false := by simp
    rw [this]
    rfl
  | k + 1, r, a, i, hk, hr, hi, ha, hs => by
    have hyes : Lib.indexByte (bs r) 46 ≠ -1 := fun h => by
      have := (index_no h).2
      omega
    obtain ⟨m, h1, h2, h3, h4⟩ := index_yes hyes
    have hsz : r.size = (bs r).length := bs_size r
    have hrest : bs (r.extract (m + 1) r.size) = (bs r).drop (m + 1) := by
      rw [bs_extract, hsz, List.take_length]
    obtain ⟨r', a', h5, h6, h7⟩ := split_inv s n hn k (r.extract (m + 1) r.size) (a.set i (r.extract 0 m)) (i + 1) (by rw [hrest]; omega) (by rw [bs_size, hrest, List.length_drop]; omega) (by omega) (by rw [List.length_set]; exact ha) (by
      rw [hrest, ← hs, h3, List.take_set, List.take_succ_eq_append_getElem (by omega), List.set_append]
      have hl : (a.take i).length = i := by rw [List.length_take]; omega
      rw [hl, if_neg (by omega), Nat.sub_self, List.set_cons_zero, List.map_append, List.append_assoc]
      simp [bs_extract])
    refine ⟨r', a', loop_step ?_ h5, h6, h7⟩
    rw [B139_0_eq, F165_dot, h1]
    have e1 : decide ((i : Int) < (n : Int)) = true := by simp; omega
    have e2 : decide ((m : Int) < Int.ofNat 0) = false := by simp
    have e3 : IntKind.wrap IntKind.i64 ((m : Int) + 0) = (m : Int) := by rw [wrap64 (by omega) (by omega)]; omega
    have e4 : (decide (Int.ofNat 0 ≤ (m : Int)) && decide ((m : Int) ≤ Int.ofNat r.size)) = true := by simp; omega
    have e5 : (decide (Int.ofNat 0 ≤ (i : Int)) && decide ((i : Int) < Int.ofNat a.length)) = true := by simp; omega
    have e6 : IntKind.wrap IntKind.i64 ((m : Int) + Int.ofNat (ByteArray.size dot)) = ((m + 1 : Nat) : Int) := by
      have : Int.ofNat (ByteArray.size dot) = 1 := rfl
      rw [this]; exact wrap64s m (by omega)
    have e7 : (decide (Int.ofNat 0 ≤ ((m + 1 : Nat) : Int)) && (decide (((m + 1 : Nat) : Int) ≤ Int.ofNat r.size) && decide (Int.ofNat r.size ≤ Int.ofNat r.size))) = true := by simp; omega
    have e8 : IntKind.wrap IntKind.i64 ((i : Int) + Int.ofNat 1) = ((i + 1 : Nat) : Int) := wrap64s i (by omega)
    have e9 : a[i]? = some (a[i]'(by omega)) := List.getElem?_eq_getElem _
    simp only [e1, e2, e3, e4, e5, e6, e7, e8, cond_true, cond_false, Int.toNat_natCast, Option.bind_some]
    rw [e9]
    rfl
theorem F102_dot (s : ByteArray) (hs : s.size ≤ 1099511627776) : F102 (s, dot, ()) = some (splitDot s, ()) := by
  rw [F102_eq, F139_eq]
  have h1 : (Int.negSucc 0 == Int.ofNat 0) = false := rfl
  have h2 : (bl dot == []) = false := by rw [bs_toList]; rfl
  have h3 : decide (Int.negSucc 0 < Int.ofNat 0) = true := rfl
  have h4 : F164 (s, dot, ()) = some ((((bs s).count 46 : Nat) : Int), ()) := by
    rw [F164_eq]
    have g1 : (Int.ofNat (ByteArray.size dot) == Int.ofNat 0) = false := rfl
    have g2 : (Int.ofNat (ByteArray.size dot) == Int.ofNat 1) = true := rfl
    have g3 : decide (Int.ofNat 0 < Int.ofNat (ByteArray.size dot)) = true := rfl
    rw [g1, g2, g3]
    simp only [cond_false, cond_true]
    rw [xCount_eq]
    rfl
  have hc : (bs s).count 46 ≤ (bs s).length := List.count_le_length
  have hsz := bs_size s
  rw [h1, h2, h3, h4]
  simp only [cond_false, cond_true, Option.bind_some]
  generalize hn : (bs s).count 46 = n
  have e1 : IntKind.wrap IntKind.i64 (Int.ofNat s.size + Int.ofNat 1) = ((s.size + 1 : Nat) : Int) := wrap64s s.size (by omega)
  have e2 : IntKind.wrap IntKind.i64 ((n : Int) + Int.ofNat 1) = ((n + 1 : Nat) : Int) := wrap64s n (by omega)
  have e3 : decide (((s.size + 1 : Nat) : Int) < ((n + 1 : Nat) : Int)) = false := by simp; omega
  rw [e1, e2, e3]
  simp only [cond_false]
  have e4 : (decide (Int.ofNat 0 ≤ ((n + 1 : Nat) : Int)) && (decide (((n + 1 : Nat) : Int) ≤ ((n + 1 : Nat) : Int)) && decide ((Int.ofNat 16 * ((n + 1 : Nat) : Int)) ≤ Int.ofNat 281474976710656) && decide (((n + 1 : Nat) : Int) ≤ Int.ofNat 9223372036854775807))) = true := by
    simp; omega
  have e5 : IntKind.wrap IntKind.i64 (((n + 1 : Nat) : Int) - Int.ofNat 1) = (n : Int) := by rw [show ((n + 1 : Nat) : Int) - Int.ofNat 1 = (n : Int) by simp]; exact wrap64 (by omega) (by omega)
  rw [e4, e5]
  simp only [cond_true, Int.toNat_natCast]
  obtain ⟨r', a', h5, h6, h7⟩ := split_inv s n (by omega) n s (List.replicate (n + 1) (lit [])) 0 hn.symm hs (by omega) (by simp) (by simp)
  have h5' : loop B139_0 (s, dot, Int.ofNat 0, (n : Int), Int.ofNat 0, List.replicate (n + 1) (lit []), ()) = some (r', (n : Int), a', ()) := h5
  rw [h5']
  simp only [Option.bind_some]
  have e6 : (decide (Int.ofNat 0 ≤ (n : Int)) && decide ((n : Int) < Int.ofNat a'.length)) = true := by simp; omega
  have e7 : a'[n]? = some (a'[n]'(by omega)) := List.getElem?_eq_getElem _
  have e8 : (decide (Int.ofNat 0 ≤ ((n + 1 : Nat) : Int)) && (decide (((n + 1 : Nat) : Int) ≤ Int.ofNat (List.length (a'.set n r'))) && decide (Int.ofNat (List.length (a'.set n r')) ≤ Int.ofNat (List.length (a'.set n r'))))) = true := by simp; omega
  simp only [e6, e2, cond_true, Int.toNat_natCast, e8, Nat.zero_add, List.drop_zero]
  rw [e7]
  simp only [Option.bind_some]
  have hl : List.take (n + 1) (a'.set n r') = a'.take n ++ [r'] := by
    rw [List.take_set, List.take_of_length_le (by omega), List.set_eq_take_append_cons_drop, if_pos (by omega), List.drop_of_length_le (by omega)]
  have he : a'.take n ++ [r'] = splitDot s := by
    unfold splitDot
    rw [← h7, List.map_append, List.map_map]
    have : (lit ∘ bs) = id := by funext x; exact lit_bs x
    rw [this, List.map_id]
    simp [lit_bs]
  rw [hl, he]
end Z
end Go.Vx
/-! Orders: whole numbers, bytes, words, versions. -/
namespace Go.Vx
open Go
set_option linter.unusedVariables false
/-- An order by a sign. -/
structure Lin {α : Type} (c : α → α → Int) : Prop where
  rng : ∀ x y, c x y = -1 ∨ c x y = 0 ∨ c x y = 1
  eq0 : ∀ x y, c x y = 0 ↔ x = y
  anti : ∀ x y, c y x = - c x y
  trans : ∀ x y z, c x y = -1 → c y z = -1 → c x z = -1
theorem Lin.self {α : Type} {c : α → α → Int} (h : Lin c) (x : α) : c x x = 0 := (h.eq0 x x).2 rfl
theorem Lin.pull {α β : Type} {c : α → α → Int} (h : Lin c) (f : β → α) (hf : ∀ x y, f x = f y → x = y) : Lin fun x y => c (f x) (f y) :=
  ⟨fun x y => h.rng _ _, fun x y => ⟨fun e => hf _ _ ((h.eq0 _ _).1 e), fun e => by rw [e]; exact h.self _⟩, fun x y => h.anti _ _, fun x y z => h.trans _ _ _⟩
/-- First by one, then by the other. -/
def orC (a b : Int) : Int := if a = 0 then b else a
theorem Lin.prod {α β : Type} {c : α → α → Int} {d : β → β → Int} (h : Lin c) (k : Lin d) : Lin fun (x y : α × β) => orC (c x.1 y.1) (d x.2 y.2) := by
  refine ⟨fun x y => ?_, fun x y => ?_, fun x y => ?_, fun x y z => ?_⟩
  · unfold orC; split
    · exact k.rng _ _
    · exact h.rng _ _
  · unfold orC
    split
    · rename_i e
      rw [k.eq0]
      have := (h.eq0 _ _).1 e
      exact ⟨fun e2 => Prod.ext this e2, fun e2 => by rw [e2]⟩
    · rename_i e
      exact ⟨fun e2 => absurd e2 e, fun e2 => absurd ((h.eq0 x.1 y.1).2 (by rw [e2])) e⟩
  · unfold orC
    rw [h.anti x.1 y.1, k.anti x.2 y.2]
    split
    · rename_i e; rw [if_pos (by omega)]
    · rename_i e; rw [if_neg (by omega)]
  · unfold orC
    intro h1 h2
    by_cases e1 : c x.1 y.1 = 0
    · rw [if_pos e1] at h1
      have e1' := (h.eq0 _ _).1 e1
      rw [e1']
      by_cases e2 : c y.1 z.1 = 0
      · rw [if_pos e2] at h2 ⊢
        exact k.trans _ _ _ h1 h2
      · rw [if_neg e2] at h2 ⊢
        exact h2
    · rw [if_neg e1] at h1
      by_cases e2 : c y.1 z.1 = 0
      · have e2' := (h.eq0 _ _).1 e2
        rw [← e2', if_neg e1]
        exact h1
      · rw [if_neg e2] at h2
        have := h.trans _ _ _ h1 h2
        rw [if_neg (by omega)]
        exact this
def listC {α : Type} (c : α → α → Int) : List α → List α → Int
  | [], [] => 0
  | [], _ :: _ => -1
  | _ :: _, [] => 1
  | x :: xs, y :: ys => orC (c x y) (listC c xs ys)
theorem Lin.list {α : Type} {c : α → α → Int} (h : Lin c) : Lin (listC c) := by
  have rng : ∀ x y, listC c x y = -1 ∨ listC c x y = 0 ∨ listC c x y = 1 := by
    intro x
    induction x with
    | nil => intro y; cases y <;> simp [listC]
    | cons a x ih =>
      intro y
      cases y with
      | nil => simp [listC]
      | cons b y =>
        simp only [listC, orC]
        split
        · exact ih y
        · exact h.rng _ _
  have eq0 : ∀ x y, listC c x y = 0 ↔ x = y := by
    intro x
    induction x with
    | nil => intro y; cases y <;> simp [listC]
    | cons a x ih =>
      intro y
      cases y with
      | nil => simp [listC]
      | cons b y =>
        simp only [listC, orC]
        split
        · rename_i e
          rw [ih y, (h.eq0 _ _).1 e]
          simp
        · rename_i e
          refine ⟨fun e2 => absurd e2 e, fun e2 => ?_⟩
          injection e2 with e3 _
          exact absurd ((h.eq0 _ _).2 e3) e
  have anti : ∀ x y, listC c y x = - listC c x y := by
    intro x
    induction x with
    | nil => intro y; cases y <;> simp [listC]
    | cons a x ih =>
      intro y
      cases y with
      | nil => simp [listC]
      | cons b y =>
        simp only [listC, orC]
        rw [h.anti a b, ih y]
        split
        · rename_i e; rw [if_pos (by omega)]
        · rename_i e; rw [if_neg (by omega)]
  refine ⟨rng, eq0, anti, ?_⟩
  intro x
  induction x with
  | nil =>
    intro y z h1 h2
    cases y with
    | nil => simp [listC] at h1
    | cons b y =>
      cases z with
      | nil => simp [listC] at h2
      | cons d z => rfl
  | cons a x ih =>
    intro y z h1 h2
    cases y with
    | nil => simp [listC] at h1
    | cons b y =>
      cases z with
      | nil => simp [listC] at h2
      | cons d z =>
        simp only [listC, orC] at h1 h2 ⊢
        by_cases e1 : c a b = 0
        · rw [if_pos e1] at h1
          rw [(h.eq0 _ _).1 e1]
          by_cases e2 : c b d = 0
          · rw [if_pos e2] at h2 ⊢
            exact ih y z h1 h2
          · rw [if_neg e2] at h2 ⊢
            exact h2
        · rw [if_neg e1] at h1
          by_cases e2 : c b d = 0
          · rw [← (h.eq0 _ _).1 e2, if_neg e1]
            exact h1
          · rw [if_neg e2] at h2
            have := h.trans _ _ _ h1 h2
            rw [if_neg (by omega)]
            exact this
theorem Lin.swo {α : Type} {c : α → α → Int} (h : Lin c) : Sort.SWO fun x y => decide (c x y < 0) := by
  have lt : ∀ x y, c x y < 0 ↔ c x y = -1 := fun x y => by have := h.rng x y; omega
  have tr : ∀ x y z, c x y = 1 → c y z = 1 → c x z = 1 := fun x y z h1 h2 => by
    have := h.trans z y x (by rw [h.anti y z]; omega) (by rw [h.anti x y]; omega)
    rw [h.anti x z] at this; omega
  refine ⟨fun x => by simp [h.self], fun x y z h1 h2 => ?_, fun x y z h1 h2 => ?_⟩
  · simp only [decide_eq_true_eq, lt] at *
    exact h.trans _ _ _ h1 h2
  · simp only [decide_eq_false_iff_not, lt] at *
    intro h3
    have r1 := h.rng x y
    have r2 := h.rng y z
    by_cases e1 : c x y = 0
    · rw [(h.eq0 _ _).1 e1] at h3; exact h2 h3
    · by_cases e2 : c y z = 0
      · rw [← (h.eq0 _ _).1 e2] at h3; exact h1 h3
      · have := tr x y z (by omega) (by omega); omega
/-! ### The orders -/
def cmpI (a b : Int) : Int := if a < b then -1 else if b < a then 1 else 0
theorem lin_cmpI : Lin cmpI := by
  refine ⟨fun x y => ?_, fun x y => ?_, fun x y => ?_, fun x y z => ?_⟩ <;> unfold cmpI
  · split
    · simp
    · split <;> simp
  · split
    · constructor <;> intro h <;> omega
    · split <;> constructor <;> intro h <;> omega
  · split <;> split <;> first | omega | (split <;> omega) | rfl
  · intro h1 h2
    split at h1
    · split at h2
      · rw [if_pos (by omega)]
      · split at h2 <;> omega
    · split at h1 <;> omega
def cmpU (a b : UInt8) : Int := cmpI a.toNat b.toNat
theorem lin_cmpU : Lin cmpU := lin_cmpI.pull (fun a : UInt8 => (a.toNat : Int)) fun x y h => UInt8.toNat_inj.1 (by omega)
/-- Texts as bytes. -/
abbrev cmpT : List UInt8 → List UInt8 → Int := listC cmpU
theorem lin_cmpT : Lin cmpT := lin_cmpU.list
theorem compareBytes_eq : ∀ a b, Lib.compareBytes a b = cmpT a b
  | [], [] => rfl
  | [], _ :: _ => rfl
  | _ :: _, [] => rfl
  | x :: a, y :: b => by
    have ih := compareBytes_eq a b
    by_cases h1 : x.toNat < y.toNat
    · have c : cmpU x y = -1 := by unfold cmpU cmpI; rw [if_pos (by omega)]
      simp [Lib.compareBytes, listC, orC, c, UInt8.lt_iff_toNat_lt, h1]
    · by_cases h2 : y.toNat < x.toNat
      · have c : cmpU x y = 1 := by unfold cmpU cmpI; rw [if_neg (by omega), if_pos (by omega)]
        simp [Lib.compareBytes, listC, orC, c, UInt8.lt_iff_toNat_lt, h1, h2]
      · have c : cmpU x y = 0 := by unfold cmpU cmpI; rw [if_neg (by omega), if_neg (by omega)]
        simp [Lib.compareBytes, listC, orC, c, UInt8.lt_iff_toNat_lt, h1, h2, ih]
theorem bytesLess_eq : ∀ a b, Op.bytesLess a b = decide (cmpT a b = -1)
  | [], [] => rfl
  | [], _ :: _ => rfl
  | _ :: _, [] => rfl
  | x :: a, y :: b => by
    unfold Op.bytesLess
    simp only [listC, cmpU, cmpI, orC]
    rw [bytesLess_eq a b]
    by_cases h1 : x < y
    · have := UInt8.lt_iff_toNat_lt.1 h1
      simp [h1, this]
    · have h1' : ¬ x.toNat < y.toNat := fun h => h1 (UInt8.lt_iff_toNat_lt.2 h)
      have h1'' : ¬ ((x.toNat : Int) < (y.toNat : Int)) := by omega
      by_cases h2 : x = y
      · subst h2; simp [h1]
      · have h3 : y.toNat < x.toNat := by
          rcases Nat.lt_or_ge y.toNat x.toNat with h | h
          · exact h
          · exact absurd (UInt8.toNat_inj.1 (by omega)) h2
        have h3' : (y.toNat : Int) < (x.toNat : Int) := by omega
        simp [h1, h2, h1'', h3']
def dig1 (c : UInt8) : Bool := decide (48 ≤ c.toNat) && decide (c.toNat ≤ 57)
def allDig (l : List UInt8) : Bool := l.all dig1 && !l.isEmpty
def wordKey (l : List UInt8) : Int × Int × List UInt8 := if allDig l then (0, (l.length : Int), l) else (1, 0, l)
/-- Words of what is ahead of a version. -/
def cmpW (a b : List UInt8) : Int := (fun (x y : Int × Int × List UInt8) => orC (cmpI x.1 y.1) (orC (cmpI x.2.1 y.2.1) (cmpT x.2.2 y.2.2))) (wordKey a) (wordKey b)
theorem lin_cmpW : Lin cmpW := (lin_cmpI.prod (lin_cmpI.prod lin_cmpT)).pull wordKey fun x y h => by
  unfold wordKey at h
  split at h <;> split at h <;> simp_all
theorem splitB_inj (c : UInt8) : ∀ x y, splitB c x = splitB c y → x = y
  | [], [], _ => rfl
  | [], b :: y, h => by
    have h1 := splitB_length c (b :: y)
    rw [← h] at h1
    unfold splitB at h
    split at h
    · have := splitB_ne c y
      injection h with _ h
      exact absurd h.symm this
    · split at h <;> cases h
  | a :: x, [], h => by
    unfold splitB at h
    split at h
    · have := splitB_ne c x
      injection h with _ h
      exact absurd h this
    · split at h <;> cases h
  | a :: x, b :: y, h => by
    have hx := splitB_ne c x
    have hy := splitB_ne c y
    rw [splitB, splitB] at h
    cases hsx : splitB c x with
    | nil => exact absurd hsx hx
    | cons w ws =>
      cases hsy : splitB c y with
      | nil => exact absurd hsy hy
      | cons v vs =>
        rw [hsx, hsy] at h
        by_cases ha : (a == c) = true
        · by_cases hb : (b == c) = true
          · rw [if_pos ha, if_pos hb] at h
            injection h with _ h
            rw [splitB_inj c x y (by rw [hsx, hsy, h])]
            have := (beq_iff_eq.1 ha).trans (beq_iff_eq.1 hb).symm
            rw [this]
          · rw [if_pos ha, if_neg hb] at h
            cases h
        · by_cases hb : (b == c) = true
          · rw [if_neg ha, if_pos hb] at h
            cases h
          · rw [if_neg ha, if_neg hb] at h
            injection h with h1 h2
            injection h1 with h3 h4
            rw [h3, splitB_inj c x y (by rw [hsx, hsy, h4, h2])]
def preKey (l : List UInt8) : Int × List (List UInt8) := if l = [] then (1, []) else (0, splitB 46 l)
/-- What is ahead of versions. -/
def cmpP (a b : List UInt8) : Int := (fun (x y : Int × List (List UInt8)) => orC (cmpI x.1 y.1) (listC cmpW x.2 y.2)) (preKey a) (preKey b)
theorem lin_cmpP : Lin cmpP := (lin_cmpI.prod lin_cmpW.list).pull preKey fun x y h => by
  unfold preKey at h
  split at h <;> split at h
  · simp_all
  · simp at h
  · simp at h
  · injection h with _ h; exact splitB_inj 46 _ _ h
/-- A version: r5's data. -/
abbrev Ver := Int × Int × Int × ByteArray × Unit
def verKey (v : Ver) : Int × Int × Int × List UInt8 := (v.1, v.2.1, v.2.2.1, bs v.2.2.2.1)
def cmpV (a b : Ver) : Int := (fun (x y : Int × Int × Int × List UInt8) => orC (cmpI x.1 y.1) (orC (cmpI x.2.1 y.2.1) (orC (cmpI x.2.2.1 y.2.2.1) (cmpP x.2.2.2 y.2.2.2)))) (verKey a) (verKey b)
theorem lin_cmpV : Lin cmpV := (lin_cmpI.prod (lin_cmpI.prod (lin_cmpI.prod lin_cmpP))).pull verKey fun x y h => by
  obtain ⟨a, b, c, d, u⟩ := x
  obtain ⟨a', b', c', d', u'⟩ := y
  simp only [verKey, Prod.mk.injEq] at h
  obtain ⟨h1, h2, h3, h4⟩ := h
  rw [h1, h2, h3, bs_inj h4]
abbrev Req := ByteArray × Ver
def reqKey (r : Req) : List UInt8 × Ver := (bs r.1, r.2)
def cmpR (a b : Req) : Int := (fun (x y : List UInt8 × Ver) => orC (cmpT x.1 y.1) (cmpV x.2 y.2)) (reqKey a) (reqKey b)
theorem lin_cmpR : Lin cmpR := (lin_cmpT.prod lin_cmpV).pull reqKey fun x y h => by
  simp only [reqKey, Prod.mk.injEq] at h
  exact Prod.ext (bs_inj h.1) h.2
end Go.Vx
/-! slices.SortFunc over an own list, by the shelf's contract, as an entry. -/
namespace Go.Vx
open Go Go.RowKit Go.Proofs Go.Shelf Go.Sort
set_option linter.unusedVariables false
set_option linter.unusedSimpArgs false
def rowShape : Ty → List SAC
  | .unit => []
  | .cons a b => .d a :: rowShape b
  | .int k => [.d (.int k)]
  | .bool => [.d .bool]
  | .str => [.d .str]
  | .list r => [.d (.list r)]
def toP : (r : Ty) → r.D → {X : Type} → X → rowP (rowShape r) X
  | .unit, _, _, y => y
  | .cons _ b, x, _, y => (x.1, toP b x.2 y)
  | .int _, x, _, y => (x, y)
  | .bool, x, _, y => (x, y)
  | .str, x, _, y => (x, y)
  | .list _, x, _, y => (x, y)
theorem em_toP : ∀ (r : Ty) (x : r.D) {X : Type} (y : X), emRow (rowShape r) (toP r x y) = (cellsOf r x, y)
  | .unit, _, _, _ => rfl
  | .cons a b, x, X, y => by
    have h := em_toP b x.2 y
    simp only [rowShape, toP, emRow, emAC, cellsOf, h]
  | .int _, _, _, _ => rfl
  | .bool, _, _, _ => rfl
  | .str, _, _, _ => rfl
  | .list _, _, _, _ => rfl
@[reducible] def shCmp (r : Ty) : Shape := ⟨[(0, .row (rowShape r)), (1, .row (rowShape r))], []⟩
@[reducible] def outI : Shape := ⟨[(0, .one (.d (.int .i64)))], []⟩
@[reducible] def shSort (e : Nat) (r : Ty) (g : Nat) : Shape := ⟨[(0, .one (.own 100000)), (1, .one (.fn g))], [(100000, .lst e r false)]⟩
@[reducible] def outSort (e : Nat) (r : Ty) : Shape := ⟨[], [(100000, .lst e r false)]⟩
/-- What the sort makes of a list: by places. -/
def sortIdx (lt : Nat → Nat → Bool) (n : Nat) : List Nat := (Sort.pdq lt (Array.range n) 0 n (Lib.bitLen n) true true).toList
def sortBy {α : Type} (cf : α → α → Int) : List α → List α
  | [] => []
  | x :: l => (sortIdx (ltOf fun i j => cf ((x :: l).getD i x) ((x :: l).getD j x)) (x :: l).length).map fun i => (x :: l).getD i x
def FSort (r : Ty) (e g : Nat) (ok : r.D → Bool) (cf : r.D → r.D → Int) : (shSort e r g).D → Option (outSort e r).D := fun p =>
  bif p.1.all ok && decide (p.1.length < 4611686018427387904) then some (sortBy cf p.1, ()) else none

theorem swo_at {α β : Type} {cf : α → α → Int} (h : SWO (ltOf cf)) (f : β → α) : SWO (ltOf fun i j => cf (f i) (f j)) :=
  ⟨fun x => h.irrefl (f x), fun x y z => h.trans (f x) (f y) (f z), fun x y z => h.ntrans (f x) (f y) (f z)⟩
theorem pdq_range {lt : Nat → Nat → Bool} (h : SWO lt) (n : Nat) : (sortIdx lt n).Perm (List.range n) := by
  obtain ⟨⟨h1, _, h2⟩, _⟩ := Sort.pdq_sorts lt h (Array.range n) 0 n (Lib.bitLen n) true true (Nat.zero_le _) (by simp) (Or.inl rfl)
  have gen : ∀ (A : Array Nat), A.size = n → A.extract 0 n = A := by intro A hA; subst hA; exact Array.extract_size
  have e1 := gen (Sort.pdq lt (Array.range n) 0 n (Lib.bitLen n) true true) (by rw [h1]; simp)
  have e2 := gen (Array.range n) (by simp)
  rw [e1, e2, Array.toList_range] at h2
  exact h2
theorem flatK_toList {α : Type} [Inhabited α] (enc : α → List Value) (k : Nat) (hk : ∀ x, (enc x).length = k) (d : Array α) : (flatK enc k d).toList = d.toList.flatMap enc := by
  apply List.ext_getElem
  · rw [Array.length_toList, size_flatK, List.length_flatMap]
    simp [hk, Function.comp_def]
    rw [List.map_const', List.sum_replicate_nat]; simp
  · intro t h1 h2
    rw [Array.length_toList, size_flatK] at h1
    have hk0 : 0 < k := by
      rcases Nat.eq_zero_or_pos k with h | h
      · subst h; simp at h1
      · exact h
    have hd : t / k < d.size := Nat.div_lt_of_lt_mul (by rw [Nat.mul_comm]; exact h1)
    have hm : t % k < k := Nat.mod_lt _ hk0
    have g1 := get_flatK enc k d t h1
    rw [getElem!_pos _ t (by rw [size_flatK]; exact h1)] at g1
    rw [Array.getElem_toList, g1]
    have key : ∀ (l : List α) (q : Nat), q < l.length → ∀ j, j < k → (l.flatMap enc)[q * k + j]? = (enc l[q]!)[j]? := by
      intro l
      induction l with
      | nil => intro q hq; simp at hq
      | cons x l ih =>
        intro q hq j hj
        rw [List.flatMap_cons]
        cases q with
        | zero => rw [List.getElem?_append_left (by rw [hk]; omega)]; simp
        | succ q =>
          rw [List.getElem?_append_right (by rw [hk, Nat.add_mul]; omega), hk, show (q + 1) * k + j - k = q * k + j by rw [Nat.add_mul]; omega]
          rw [ih q (by simpa using hq) j hj]
          simp
    have h3 := key d.toList (t / k) (by simpa using hd) (t % k) hm
    rw [Nat.mul_comm, Nat.div_add_mod, List.getElem?_eq_getElem h2] at h3
    have h4 : d.toList[t / k]! = d[t / k]! := by
      rw [getElem!_pos d.toList _ (by simpa using hd), getElem!_pos d _ hd]
      simp
    rw [h4, List.getElem?_eq_getElem (by rw [hk]; exact hm)] at h3
    injection h3 with h3
    rw [h3, getElem!_pos _ _ (by rw [hk]; exact hm)]
theorem onCells_at (f : Array Value → Array Value) (cs : Array Value) (t : TypeId) (z : Nat × Nat) : Sort.onCells f (.cells cs t z) = .cells (f cs) t z := rfl
section
variable {P : Program} {ρ : Shelf.Ren}
/-- The element at a place, or the first. -/
def vsAt (k : Nat) (vs : List Value) (n : Nat) (i : Nat) : List Value := (vs.drop ((if i < n then i else 0) * k)).take k
theorem world_grown {W w' : World} (h1 : w'.os = W.os) (h2 : w'.tape = W.tape) (h3 : w'.output = W.output) (h4 : W.heap.size ≤ w'.heap.size) (h5 : ∀ k, k < W.heap.size → w'.heap[k]? = W.heap[k]?) (h6 : W.drawn ≤ w'.drawn) :
    ∃ q os', w' = grow (W.drewN q) os' := by
  refine ⟨w'.drawn - W.drawn, w'.heap.extract W.heap.size w'.heap.size, ?_⟩
  obtain ⟨wh, wt, wd, wo, wp⟩ := w'
  obtain ⟨Wh, Wt, Wd, Wo, Wp⟩ := W
  simp only at h1 h2 h3 h4 h5 h6
  subst h1 h2 h3
  simp only [grow, World.drewN, World.mk.injEq, true_and, and_true]
  refine ⟨?_, by omega⟩
  apply Array.ext
  · simp; omega
  · intro i hi hi'
    rw [Array.getElem_append]
    split
    · rename_i hlt
      have := h5 i hlt
      rw [Array.getElem?_eq_getElem hi, Array.getElem?_eq_getElem hlt] at this
      exact Option.some.inj this
    · rename_i hlt
      rw [Array.getElem_extract]
      congr 1
      omega
theorem sort_ok (L : SlLaysF0.n6 P ρ) (none_ok : ∀ (p : Option Addr) (cap : Nat) (fv : Value) (w : World), Calls P (ρ.f 6) #[.slice p 0 cap, fv] w fun e w' => e = .returned (.tuple #[]) ∧ w' = w)
    (ents : ∀ args w, (callFunc (ρ.f 6) args).run P w = .ok (.enter (ρ.f 6) args) w)
    {r : Ty} {e g : Nat} (aE : ∀ w, (Go.isAgg (ρ.t 24)).run P w = .ok true w) (zE : ∀ w, (Go.sizeOf (ρ.t 24)).run P w = .ok r.width w)
    {Fc : (shCmp r).D → Option outI.D} (hc : FEOK P ⟨g, shCmp r, outI, Fc⟩) (eg : ∀ args w, (callFunc g args).run P w = .ok (.enter g args) w)
    (cf : r.D → r.D → Int) (ok : r.D → Bool) (hcf : ∀ x y, ok x = true → ok y = true → Fc (toP r x (toP r y ())) = some (cf x y, ())) (hO : SWO (ltOf cf)) :
    FEOK P ⟨ρ.f 6, shSort e r g, outSort e r, FSort r e g ok cf⟩ := by
  intro p res hF gh w args hsz hH hargs hgd
  obtain ⟨xs, u⟩ := p
  unfold FSort at hF
  simp only at hF
  cases hcond : (xs.all ok && decide (xs.length < 4611686018427387904)) with
  | false => rw [hcond] at hF; cases hF
  | true =>
  rw [hcond] at hF
  simp only [cond_true, Option.some.injEq] at hF
  subst hF
  simp only [Bool.and_eq_true, decide_eq_true_eq, List.all_eq_true] at hcond
  obtain ⟨hok, hlen⟩ := hcond
  have hm : (embed (shSort e r g) (xs, u)).blk 100000 = some (.lst e r xs false) := rfl
  obtain ⟨h1a, h1b, h1c⟩ : RepC gh (embed (shSort e r g) (xs, u)).blk w (.own 100000) (args.getD 0 undef) := hargs 0
  have h2 : args.getD 1 undef = .func (.func g) #[] #[] := hargs 1
  have hargs2 : args = #[gh.val 100000, .func (.func g) #[] #[]] := by
    have hsz : args.size = 2 := hsz
    apply Array.ext
    · simpa using hsz
    · intro i q1 q2
      simp at q2
      match i, q2 with
      | 0, _ => simpa [Array.getD, q1] using h1b
      | 1, _ => simpa [Array.getD, q1] using h2
  obtain ⟨vs, hown, hvs, hw0, _⟩ := hH.blk 100000 _ hm
  refine .inr ⟨ents _ _, ?_⟩
  rw [hargs2]
  -- the end, from a world that holds the new row
  have fin : ∀ (w' : World) (ys : List r.D) (vs' : List Value) (gb : Nat), gh.blk 100000 = some gb → w.grownBy w' (some gb) → w.drawn ≤ w'.drawn → w'.ownsRow 0 e r.width (gh.val 100000) ys.length vs' → RepCs gh (embed (shSort e r g) (xs, u)).blk w (rowsCells r ys) vs' →
      Ret (outSort e r) (ys, ()) gh (embed (shSort e r g) (xs, u)).blk w (.tuple #[]) w' := by
    intro w' ys vs' gb hgb hG hdr ho hr
    have hput := heap_put hH hm rfl (b' := .lst e r ys false) rfl hgb (fun x h => by obtain ⟨h, _⟩ := h; cases h) hdr hG (fun hc hext => by
      exact ⟨vs', ho, repCs_mono (g := gh) (g' := gh) (m := (embed (shSort e r g) (xs, u)).blk) (fun _ h => h) hc hext hr, hw0, fun hf => by cases hf⟩)
    obtain ⟨hH2, hT2, _⟩ := hput
    have hme : upd (embed (shSort e r g) (xs, u)).blk 100000 (.lst e r ys false) = (embed (outSort e r) (ys, ())).blk := by
      funext i
      show (bif Nat.beq 100000 i then some _ else lookM i _) = lookM i _
      simp only [embed, emMem, emBlk, lookM]
      cases Nat.beq 100000 i <;> rfl
    rw [hme] at hH2 hT2
    exact ⟨gh, hH2, hT2, ⟨#[], rfl, .nil⟩⟩
  rcases hown.2 with ⟨hv, h0⟩ | ⟨gb, cap, cur, hv, _, hg, hnc, hcm, hcs, htk⟩
  · -- nil
    rw [hv]
    have hx : xs = [] := List.eq_nil_of_length_eq_zero h0
    subst hx
    refine Calls.mono (none_ok none 0 _ w) fun ev w' ⟨he, hw⟩ => ⟨_, he, ?_⟩
    subst hw
    have hme : (embed (shSort e r g) (([] : List r.D), u)).blk = (embed (outSort e r) (([] : List r.D), ())).blk := by funext i; rfl
    refine ⟨gh, ?_, ?_, ⟨#[], rfl, .nil⟩⟩
    · show HeapOK gh (embed (outSort e r) (([] : List r.D), ())).blk w'
      rw [← hme]; exact hH
    · show Tr gh _ w' gh (embed (outSort e r) (([] : List r.D), ())).blk w'
      rw [← hme]; exact Tr.refl _ _ _
  · rw [hv]
    have hgb : gh.blk 100000 = some gb := by simp [Gh.blk, hv, blockOfV]
    have hglt : gb < w.heap.size := (Array.getElem?_eq_some_iff.1 hg).1
    cases xs with
    | nil =>
      refine Calls.mono (none_ok _ cap _ w) fun ev w' ⟨he, hw⟩ => ⟨_, he, ?_⟩
      subst hw
      have hme : (embed (shSort e r g) (([] : List r.D), u)).blk = (embed (outSort e r) (([] : List r.D), ())).blk := by funext i; rfl
      refine ⟨gh, ?_, ?_, ⟨#[], rfl, .nil⟩⟩
      · show HeapOK gh (embed (outSort e r) (([] : List r.D), ())).blk w'
        rw [← hme]; exact hH
      · show Tr gh _ w' gh (embed (outSort e r) (([] : List r.D), ())).blk w'
        rw [← hme]; exact Tr.refl _ _ _
    | cons x0 l =>
      generalize hX : x0 :: l = X at *
      have hX0 : 0 < X.length := by rw [← hX]; simp
      have hvl : vs.length = X.length * r.width := hown.1
      have hclamp : ∀ i, (if i < X.length then i else 0) < X.length := fun i => by split <;> omega
      have henc : ∀ i, (vsAt r.width vs X.length i).length = r.width := fun i => by
        unfold vsAt
        rw [List.length_take, List.length_drop, hvl]
        have := Nat.mul_le_mul_right r.width (show (if i < X.length then i else 0) + 1 ≤ X.length from hclamp i)
        rw [Nat.add_mul, Nat.one_mul] at this
        omega
      have hrep : ∀ i, RepCs gh (embed (shSort e r g) (X, u)).blk w (cellsOf r (X.getD i x0)) (vsAt r.width vs X.length i) := fun i => by
        unfold vsAt
        have hi := hclamp i
        have hgx : X[if i < X.length then i else 0]? = some (X.getD i x0) := by
          split
          · rename_i hlt; simp [List.getD, hlt]
          · rename_i hlt
            rw [show X.getD i x0 = x0 by simp [List.getD, Nat.le_of_not_lt hlt], ← hX]
            rfl
        rw [← rowsCells_at X _ _ hgx]
        exact (hvs.drop _).take _
      have hone : ∀ i, ∀ v ∈ vsAt r.width vs X.length i, v.oneCell' = true := fun i => repCs_one (hrep i) (cellsOf_ok _)
      have hokX : ∀ i, ok (X.getD i x0) = true := fun i => by
        refine hok _ ?_
        by_cases hlt : i < X.length
        · simp only [List.getD, List.getElem?_eq_getElem hlt, Option.getD_some]; exact List.getElem_mem hlt
        · rw [show X.getD i x0 = x0 by simp [List.getD, Nat.le_of_not_lt hlt], ← hX]; simp
      let cI : Nat → Nat → Int := fun i j => cf (X.getD i x0) (X.getD j x0)
      have hOI : SWO (ltOf cI) := swo_at hO fun i => X.getD i x0
      have hflat : (flatK (vsAt r.width vs X.length) r.width (Array.range X.length)).toList = vs := by
        rw [flatK_toList _ _ henc, Array.toList_range]
        have key : ∀ n, n ≤ X.length → (List.range n).flatMap (vsAt r.width vs X.length) = vs.take (n * r.width) := by
          intro n
          induction n with
          | zero => intro _; simp
          | succ n ih =>
            intro hn
            rw [List.range_succ, List.flatMap_append, ih (by omega), List.flatMap_cons, List.flatMap_nil, List.append_nil]
            unfold vsAt
            rw [if_pos (by omega), Nat.add_mul, Nat.one_mul, List.take_add]
        rw [key _ (Nat.le_refl _), ← hvl, List.take_length]
      have hHK : HoldsK (vsAt r.width vs X.length) r.width w gb 0 (Array.range X.length) := by
        intro j hj
        rw [size_flatK, Array.size_range] at hj
        rw [Nat.zero_add]
        have hown' : w.ownsRow 0 e r.width (.slice (some ⟨gb, 0, none⟩) X.length cap) X.length vs := by rw [← hv]; exact hown
        refine ⟨?_, hown'.frozenAt j⟩
        rw [hown'.cellAt j hj]
        have e1 := get_flatK (vsAt r.width vs X.length) r.width (Array.range X.length) j (by simpa using hj)
        have hlt : j < (flatK (vsAt r.width vs X.length) r.width (Array.range X.length)).size := by simpa using hj
        rw [getElem!_pos _ j hlt, ← Array.getElem_toList]
        simp only [hflat]
        rw [List.getElem?_eq_getElem (by rw [hvl]; exact hj)]
        rfl
      -- the stable cells lie elsewhere
      have hng : ∀ x, gh.S x → x.block ≠ gb := fun x hx e' => by
        have := hH.sep x hx 100000 _ hm (by rw [hgb, e'])
        obtain ⟨h, _⟩ := this
        cases h
      have hheap : ∀ m os dk k, k ≠ gb → k < w.heap.size → (sortWorldK (vsAt r.width vs X.length) r.width w gb 0 m dk os).heap[k]? = w.heap[k]? := by
        intro m os dk k hk hlt
        unfold sortWorldK putRowK putRow mapBlock grow Sort.ahead
        simp only
        rw [Array.getElem?_append_left (by simpa using hlt), Array.getElem?_modify, if_neg (Ne.symm hk)]
      have hsize : ∀ m os dk, w.heap.size ≤ (sortWorldK (vsAt r.width vs X.length) r.width w gb 0 m dk os).heap.size := by
        intro m os dk
        unfold sortWorldK putRowK putRow mapBlock grow Sort.ahead
        simp
      have hcell : ∀ m os dk x, gh.S x → (sortWorldK (vsAt r.width vs X.length) r.width w gb 0 m dk os).cell? x = w.cell? x := fun m os dk x hx =>
        World.cell?_of_block (hheap m os dk x.block (hng x hx) (hH.S_lt hx))
      have hcmp : CmpLays P g #[] (vsAt r.width vs X.length) r.width cI gb 0 (Array.range X.length).size w := by
        intro m os dk hdk i j
        generalize hWd : sortWorldK (vsAt r.width vs X.length) r.width w gb 0 m dk os = W
        have hcW : ∀ x, gh.S x → W.cell? x = w.cell? x := fun x hx => by rw [← hWd]; exact hcell m os dk x hx
        have hHW : HeapOK gh (fun _ => none) W := ⟨⟨fun id b h => (by cases h), fun i j b c h => (by cases h), fun x hx id b h => (by cases h), fun x hx => by
          obtain ⟨q1, v, q2⟩ := hH.st x hx
          exact ⟨q1, v, by rw [hcW x hx]; exact q2⟩⟩, fun k cs hK => by
          obtain ⟨⟨e0, fz, g1⟩, g2⟩ := hH.gr k cs hK
          refine ⟨⟨e0, fz, ?_⟩, fun id b h => (by cases h)⟩
          rw [← hWd, hheap _ _ _ k (fun e' => g2 100000 _ hm rfl (by rw [hgb, e'])) (Array.getElem?_eq_some_iff.1 g1).1]
          exact g1⟩
        have hrW : ∀ i, RepCs gh (fun _ => none) W (cellsOf r (X.getD i x0)) (vsAt r.width vs X.length i) := fun i => by
          refine all2_of_mem (fun a ha v hv => ?_) (hrep i)
          obtain ⟨t, y, rfl⟩ := cellsOf_c ha
          exact repD_mono (S := gh.S) (w := w) (fun _ h => h) hcW (hv : RepD gh.S w t y v)
        have hFc := hcf _ _ (hokX i) (hokX j)
        have henv : (embed (shCmp r) (toP r (X.getD i x0) (toP r (X.getD j x0) ()))).env = [(0, .v (.row (cellsOf r (X.getD i x0)))), (1, .v (.row (cellsOf r (X.getD j x0))))] := by
          simp only [embed, emEnv, emA1, em_toP]
        have hdoes := hc _ _ hFc gh W #[.agg (vsAt r.width vs X.length i).toArray, .agg (vsAt r.width vs X.length j).toArray] rfl hHW (fun t => by
          show RepV gh (fun _ => none) W (lookE t (embed (shCmp r) (toP r (X.getD i x0) (toP r (X.getD j x0) ()))).env) _
          rw [henv]
          match t with
          | 0 => exact ⟨_, rfl, by simpa using hrW i⟩
          | 1 => exact ⟨_, rfl, by simpa using hrW j⟩
          | t + 2 => trivial) hgd
        rcases hdoes with ⟨v, w', q1, _⟩ | ⟨_, q2⟩
        · rw [eg] at q1; cases q1
        · refine Calls.mono q2 fun ev w' ⟨v, he, gh', hH', hT', hres⟩ => ?_
          have hv' : v = .int .i64 (cI i j) := hres
          refine ⟨by rw [he, hv'], ?_⟩
          exact world_grown hT'.os hT'.tape hT'.output hT'.size (fun k hk => hT'.same k hk fun id b h => by cases h) hT'.drawn
      have hcon := AnyQ.slices_SortFunc_eq L r.width aE zE (vsAt r.width vs X.length) henc hone cI hOI g #[] gb 0 cap (Array.range X.length) w eg hcmp hHK hglt (by simpa using hlen)
      rw [show (Array.range X.length).size = X.length by simp] at hcon
      refine Calls.mono hcon fun ev w' ⟨he, n, os, hw'⟩ => ⟨_, he, ?_⟩
      -- the new row
      have hperm := pdq_range hOI X.length
      generalize hD : Sort.pdq (ltOf cI) (Array.range X.length) 0 X.length (Lib.bitLen X.length) true true = D at hw'
      have hDl : sortIdx (ltOf cI) X.length = D.toList := by rw [← hD]; rfl
      rw [hDl] at hperm
      have hDs : D.size = X.length := by have := hperm.length_eq; simpa using this
      have hys : sortBy cf X = D.toList.map fun i => X.getD i x0 := by
        rw [← hDl]
        have : ∀ Y : List r.D, x0 :: l = Y → sortBy cf Y = (sortIdx (ltOf fun i j => cf (Y.getD i x0) (Y.getD j x0)) Y.length).map fun i => Y.getD i x0 := by
          intro Y hY
          subst hY
          rfl
        exact this X hX
      rw [hys]
      have hF := flatK_toList (vsAt r.width vs X.length) r.width henc D
      have hFs : (flatK (vsAt r.width vs X.length) r.width D).size = X.length * r.width := by rw [size_flatK, hDs]
      refine fin w' _ (D.toList.flatMap (vsAt r.width vs X.length)) gb hgb ?_ ?_ ?_ ?_
      · refine ⟨by rw [hw']; rfl, by rw [hw']; rfl, by rw [hw']; rfl, by rw [hw']; exact hsize n os D, fun k hk hne => by rw [hw']; exact hheap n os D k (fun e' => hne (by rw [e'])) hk⟩
      · rw [hw']
        show w.drawn ≤ w.drawn + n
        omega
      · have hDl2 : D.toList.length = X.length := by simpa using hDs
        rw [hv, List.length_map, hDl2]
        refine ⟨by rw [← hF, Array.length_toList, hFs], .inr ⟨gb, cap, putCells id 0 (flatK (vsAt r.width vs X.length) r.width D) cur, rfl, Nat.zero_le _, ?_, hnc, hcm, by unfold putCells; rw [Array.size_mapIdx]; exact hcs, ?_⟩⟩
        · rw [hw']
          unfold sortWorldK putRowK putRow mapBlock grow Sort.ahead
          simp only
          rw [Array.getElem?_append_left (by simpa using hglt), Array.getElem?_modify, if_pos rfl, hg]
          rfl
        · rw [← hF]
          apply List.ext_getElem?
          intro t
          rw [List.getElem?_take]
          have hle : X.length * r.width ≤ cap * r.width := Nat.mul_le_mul_right _ hnc
          split
          · rename_i hlt
            have htc : t < cur.size := by rw [hcs]; omega
            have htF : t < (flatK (vsAt r.width vs X.length) r.width D).size := by rw [hFs]; exact hlt
            rw [Array.getElem?_toList, Array.getElem?_toList, Array.getElem?_eq_getElem htF]
            unfold putCells
            rw [Array.getElem?_mapIdx, Array.getElem?_eq_getElem htc]
            simp only [Option.map_some, Nat.zero_le, Nat.zero_add, true_and, Nat.sub_zero, id_eq]
            rw [if_pos htF, getElem!_pos _ t htF]
          · rename_i hlt
            rw [Array.getElem?_toList, Array.getElem?_eq_none (by rw [hFs]; omega)]
      · have : ∀ (M : List Nat), RepCs gh (embed (shSort e r g) (X, u)).blk w (rowsCells r (M.map fun i => X.getD i x0)) (M.flatMap (vsAt r.width vs X.length)) := by
          intro M
          induction M with
          | nil => exact .nil
          | cons i M ih =>
            rw [List.map_cons, List.flatMap_cons]
            unfold rowsCells
            rw [List.flatMap_cons]
            exact All2.append (hrep i) ih
        exact this _
end
end Go.Vx
/-! What the program's comparisons come to. -/
namespace Go.Vx.Z
open Go Go.Vx
set_option linter.unusedVariables false
theorem F92_is (a b : Int) : F92 (a, b, ()) = some (cmpI a b, ()) := by
  rw [F92_eq, F113_eq, F113_eq]
  simp only [beq_self_eq_true, Bool.not_true, Option.bind_some, cond_false]
  unfold cmpI
  by_cases h1 : a < b
  · simp [h1]
  · by_cases h2 : b < a
    · simp [h1, h2]
    · simp [h1, h2]
theorem F150_is (a b : ByteArray) : F150 (a, b, ()) = some (cmpT (bs a) (bs b), ()) := by
  rw [F150_eq, F171_eq, F171_eq]
  simp only [beq_self_eq_true, Bool.not_true, Option.bind_some, cond_false, bs_toList, bytesLess_eq]
  have r := lin_cmpT.rng (bs a) (bs b)
  by_cases h1 : cmpT (bs a) (bs b) = -1
  · simp [h1]
  · by_cases h2 : bs a = bs b
    · have := (lin_cmpT.eq0 (bs a) (bs b)).2 h2
      simp [h1, h2, this, lin_cmpT.self]
    · have : cmpT (bs a) (bs b) ≠ 0 := fun h => h2 ((lin_cmpT.eq0 _ _).1 h)
      have : cmpT (bs a) (bs b) = 1 := by omega
      have e : (bs a == bs b) = false := by simpa using h2
      simp [this, e]
theorem all_take (l : List UInt8) (i : Nat) (h : i < l.length) : (l.take (i + 1)).all dig1 = ((l.take i).all dig1 && dig1 l[i]) := by
  rw [List.take_succ_eq_append_getElem h, List.all_append]; simp
theorem F149_is (s : ByteArray) (hs : s.size ≤ 1099511627776) : F149 (s, ()) = some (allDig (bs s), ()) := by
  rw [F149_eq]
  have hl := bs_size s
  obtain ⟨e, h1, h2⟩ := loop_inv (B := B149_0) (fun p => ∃ i : Nat, i ≤ s.size ∧ (bs s |>.take i).all dig1 = true ∧ p = (s, Int.ofNat s.size, (i : Int), ())) (fun p => (Int.ofNat s.size - p.2.2.1).toNat)
    (fun e => (e = .inl (false, ()) ∧ (bs s).all dig1 = false) ∨ (e = .inr (s, ()) ∧ (bs s).all dig1 = true)) (by
      rintro p ⟨i, hi, ha, rfl⟩
      rw [B149_0_eq]
      by_cases hlt : i < s.size
      · have e1 : decide ((i : Int) < Int.ofNat s.size) = true := by simp; omega
        have e2 : decide (Int.ofNat 0 ≤ (i : Int)) = true := by simp
        have hb := bt_eq s i hlt
        have hil : i < (bs s).length := by omega
        simp only [e1, e2, Bool.and_self, cond_true]
        rw [hb]
        have hall : ∀ q, q < (bs s).length → dig1 ((bs s)[q]!) = false → (bs s).all dig1 = false := by
          intro q hq hd
          rw [List.all_eq_false]
          refine ⟨(bs s)[q], List.getElem_mem hq, ?_⟩
          rw [getElem!_pos (bs s) q hq] at hd
          simp [hd]
        by_cases h1 : ((bs s)[i].toNat : Int) < Int.ofNat 48
        · have e3 : decide (((bs s)[i].toNat : Int) < Int.ofNat 48) = true := by simp at h1 ⊢; exact h1
          rw [e3]
          refine .inr ⟨_, rfl, .inl ⟨rfl, hall i hil ?_⟩⟩
          rw [getElem!_pos (bs s) i hil]
          have : ¬ 48 ≤ (bs s)[i].toNat := by simp at h1; omega
          simp [dig1, this]
        · have e3 : decide (((bs s)[i].toNat : Int) < Int.ofNat 48) = false := by simp at h1 ⊢; exact h1
          rw [e3]
          simp only [cond_false]
          by_cases h2 : ((bs s)[i].toNat : Int) > Int.ofNat 57
          · have e4 : decide (((bs s)[i].toNat : Int) > Int.ofNat 57) = true := by simp at h2 ⊢; exact h2
            rw [e4]
            refine .inr ⟨_, rfl, .inl ⟨rfl, hall i hil ?_⟩⟩
            rw [getElem!_pos (bs s) i hil]
            have : ¬ (bs s)[i].toNat ≤ 57 := by simp at h2; omega
            simp [dig1, this]
          · have e4 : decide (((bs s)[i].toNat : Int) > Int.ofNat 57) = false := by simp at h2 ⊢; exact h2
            rw [e4]
            have hd : dig1 (bs s)[i] = true := by simp [dig1]; simp at h1 h2; omega
            refine .inl ⟨(s, Int.ofNat s.size, ((i + 1 : Nat) : Int), ()), ?_, ⟨i + 1, by omega, by rw [all_take _ _ hil, ha, hd]; rfl, rfl⟩, ?_⟩
            · simp only [cond_false]
              rw [show IntKind.wrap IntKind.i64 ((i : Int) + Int.ofNat 1) = ((i + 1 : Nat) : Int) from wrap64s i (by omega)]
            · simp; omega
      · have e1 : decide ((i : Int) < Int.ofNat s.size) = false := by simp; omega
        rw [e1]
        refine .inr ⟨_, rfl, .inr ⟨rfl, ?_⟩⟩
        rw [List.take_of_length_le (by omega)] at ha
        exact ha) (s, Int.ofNat s.size, Int.ofNat 0, ()) ⟨0, by omega, by simp, rfl⟩
  rw [h1]
  simp only [Option.bind_some]
  rcases h2 with ⟨rfl, h3⟩ | ⟨rfl, h3⟩
  · simp [allDig, h3]
  · simp only [Sum.elim_inr, allDig, h3, Bool.true_and, bs_toList]
    cases bs s <;> rfl
theorem F66_is (l : List Int) (hl : l.length < 1000) : F66 (l, ()) = some ((l.find? (· != 0)).getD 0, ()) := by
  rw [F66_eq]
  have key : ∀ (k i : Nat), i + k = l.length → loop B66_0 (Int.ofNat 0, l, Int.ofNat l.length, (i : Int), ()) = some (match (l.drop i).find? (· != 0) with | some y => .inl (y, ()) | none => .inr (0, ())) := by
    intro k
    induction k with
    | zero =>
      intro i hi
      refine loop_end ?_
      rw [B66_0_eq]
      have e1 : decide ((i : Int) < Int.ofNat l.length) = false := by simp; omega
      rw [e1, List.drop_of_length_le (by omega)]
      rfl
    | succ k ih =>
      intro i hi
      have e1 : decide ((i : Int) < Int.ofNat l.length) = true := by simp; omega
      have e2 : decide (Int.ofNat 0 ≤ (i : Int)) = true := by simp
      have e3 : l[i]? = some (l[i]'(by omega)) := List.getElem?_eq_getElem _
      have hd : l.drop i = l[i]'(by omega) :: l.drop (i + 1) := List.drop_eq_getElem_cons (by omega)
      by_cases hz : (l[i]'(by omega)) = 0
      · refine loop_step (q := (Int.ofNat 0, l, Int.ofNat l.length, ((i + 1 : Nat) : Int), ())) ?_ ?_
        · rw [B66_0_eq]
          simp only [e1, e2, cond_true, Int.toNat_natCast, e3, Option.bind_some]
          rw [show IntKind.wrap IntKind.i64 ((i : Int) + Int.ofNat 1) = ((i + 1 : Nat) : Int) from wrap64s i (by omega), hz]
          rfl
        · rw [ih (i + 1) (by omega), hd, List.find?_cons]
          simp [hz]
      · refine loop_end ?_
        rw [B66_0_eq]
        simp only [e1, e2, cond_true, Int.toNat_natCast, e3, Option.bind_some]
        rw [hd, List.find?_cons]
        have : ((l[i]'(by omega)) == Int.ofNat 0) = false := by simpa using hz
        have h2 : ((l[i]'(by omega)) != 0) = true := by simpa using hz
        rw [this, h2]
        rfl
  have := key l.length 0 (by omega)
  rw [show (((0 : Nat)) : Int) = Int.ofNat 0 from rfl] at this
  rw [this, List.drop_zero]
  cases l.find? (· != 0) <;> rfl
theorem wordKey_or (a b : List UInt8) : cmpW a b = if allDig a then (if allDig b then orC (cmpI a.length b.length) (cmpT a b) else -1) else (if allDig b then 1 else cmpT a b) := by
  unfold cmpW wordKey
  cases h1 : allDig a <;> cases h2 : allDig b <;> simp [orC, cmpI]
theorem F115_is (a b : ByteArray) (ha : a.size ≤ 1099511627776) (hb : b.size ≤ 1099511627776) : F115 (a, b, ()) = some (cmpW (bs a) (bs b), ()) := by
  have hsa : Int.ofNat a.size = ((bs a).length : Int) := by rw [bs_size]; rfl
  have hsb : Int.ofNat b.size = ((bs b).length : Int) := by rw [bs_size]; rfl
  rw [F115_eq, F149_is a ha, F149_is b hb, wordKey_or, F150_is, F92_is, hsa, hsb]
  simp only [Option.bind_some]
  rw [F66_is _ (by simp)]
  cases h1 : allDig (bs a) <;> cases h2 : allDig (bs b)
  · simp
  · simp
  · simp
  · simp only [cond_true, Option.bind_some, orC, if_true]
    by_cases h : cmpI (bs a).length (bs b).length = 0
    · by_cases h' : cmpT (bs a) (bs b) = 0
      · simp [h, h']
      · simp [h, h']
    · simp [h]
theorem F114_is (xs ys : List ByteArray) (hx : xs.length ≤ 1099511627776) (hxs : ∀ x ∈ xs, x.size ≤ 1099511627776) (hys : ∀ x ∈ ys, x.size ≤ 1099511627776) : F114 (xs, ys, ()) = some (listC cmpW (xs.map bs) (ys.map bs), ()) := by
  rw [F114_eq]
  have key : ∀ (k i : Nat), i + k = xs.length → ∃ e, loop B114_0 (xs, ys, xs, Int.ofNat xs.length, (i : Int), ()) = some e ∧
      Sum.elim (fun (p : Int × Unit) => some (p.1, ())) (fun (p : List ByteArray × List ByteArray × Unit) => bif decide (Int.ofNat (List.length p.1) < Int.ofNat (List.length p.2.1)) then some (Int.negSucc 0, ()) else some (Int.ofNat 0, ())) e = some (listC cmpW ((xs.drop i).map bs) ((ys.drop i).map bs), ()) ∨ ys.length < i := by
    intro k
    induction k with
    | zero =>
      intro i hi
      by_cases hy : ys.length < i
      · exact ⟨.inl (0, ()), .inr hy⟩
      refine ⟨.inr (xs, ys, ()), .inl ⟨loop_end ?_, ?_⟩⟩
      · rw [B114_0_eq]
        have e1 : decide ((i : Int) < Int.ofNat xs.length) = false := by simp; omega
        rw [e1]; rfl
      · rw [List.drop_of_length_le (l := xs) (by omega)]
        simp only [Sum.elim_inr]
        cases hd : ys.drop i with
        | nil =>
          have := List.drop_eq_nil_iff.1 hd
          have e1 : decide (Int.ofNat xs.length < Int.ofNat ys.length) = false := by simp; omega
          rw [e1]; rfl
        | cons y l =>
          have : i < ys.length := by
            rcases Nat.lt_or_ge i ys.length with h | h
            · exact h
            · rw [List.drop_of_length_le h] at hd; cases hd
          have e1 : decide (Int.ofNat xs.length < Int.ofNat ys.length) = true := by simp; omega
          rw [e1]; rfl
    | succ k ih =>
      intro i hi
      by_cases hy : ys.length < i
      · exact ⟨.inl (0, ()), .inr hy⟩
      have hil : i < xs.length := by omega
      have e1 : decide ((i : Int) < Int.ofNat xs.length) = true := by simp; omega
      have e2 : decide (Int.ofNat 0 ≤ (i : Int)) = true := by simp
      have e3 : xs[i]? = some xs[i] := List.getElem?_eq_getElem _
      have hdx : xs.drop i = xs[i] :: xs.drop (i + 1) := List.drop_eq_getElem_cons hil
      by_cases hyi : i < ys.length
      · have e4 : decide ((i : Int) ≥ Int.ofNat ys.length) = false := by simp; omega
        have e5 : ys[i]? = some ys[i] := List.getElem?_eq_getElem _
        have hdy : ys.drop i = ys[i] :: ys.drop (i + 1) := List.drop_eq_getElem_cons hyi
        have hw := F115_is xs[i] ys[i] (hxs _ (List.getElem_mem _)) (hys _ (List.getElem_mem _))
        by_cases hc : cmpW (bs xs[i]) (bs ys[i]) = 0
        · obtain ⟨e, h | h⟩ := ih (i + 1) (by omega)
          · obtain ⟨h1, h2⟩ := h
            refine ⟨e, .inl ⟨loop_step ?_ h1, ?_⟩⟩
            · rw [B114_0_eq]
              simp only [e1, e2, e4, cond_true, cond_false, Int.toNat_natCast, e3, e5, Option.bind_some, hw, hc]
              rw [show IntKind.wrap IntKind.i64 ((i : Int) + Int.ofNat 1) = ((i + 1 : Nat) : Int) from wrap64s i (by omega)]
              rfl
            · rw [h2, hdx, hdy]
              simp only [List.map_cons, listC, orC, hc, if_true]
          · omega
        · refine ⟨.inl (cmpW (bs xs[i]) (bs ys[i]), ()), .inl ⟨loop_end ?_, ?_⟩⟩
          · rw [B114_0_eq]
            have : (cmpW (bs xs[i]) (bs ys[i]) == Int.ofNat 0) = false := by simpa using hc
            simp only [e1, e2, e4, cond_true, cond_false, Int.toNat_natCast, e3, e5, Option.bind_some, hw, this, Bool.not_false]
          · rw [hdx, hdy]
            simp only [List.map_cons, listC, orC, hc, if_false, Sum.elim_inl]
      · have e4 : decide ((i : Int) ≥ Int.ofNat ys.length) = true := by simp; omega
        refine ⟨.inl (1, ()), .inl ⟨loop_end ?_, ?_⟩⟩
        · rw [B114_0_eq]
          simp only [e1, e2, e4, cond_true, Int.toNat_natCast, e3, Option.bind_some]
          rfl
        · rw [hdx, List.drop_of_length_le (l := ys) (by omega)]
          rfl
  obtain ⟨e, h | h⟩ := key xs.length 0 (by omega)
  · obtain ⟨h1, h2⟩ := h
    have h1' : loop B114_0 (xs, ys, xs, Int.ofNat xs.length, Int.ofNat 0, ()) = some e := h1
    rw [h1']
    simp only [Option.bind_some, List.drop_zero] at h2 ⊢
    exact h2
  · omega
theorem splitDot_sizes (s : ByteArray) : ∀ x ∈ splitDot s, x.size ≤ s.size := by
  have key : ∀ l : List UInt8, ∀ w ∈ splitB 46 l, w.length ≤ l.length := by
    intro l
    induction l with
    | nil => intro w hw; simp [splitB] at hw; subst hw; simp
    | cons x l ih =>
      intro w hw
      unfold splitB at hw
      split at hw
      · rcases List.mem_cons.1 hw with rfl | hw
        · simp
        · have := ih w hw; simp; omega
      · split at hw
        · simp at hw; subst hw; simp
        · rename_i v vs hs
          rcases List.mem_cons.1 hw with rfl | hw
          · have := ih v (by rw [hs]; simp); simp; omega
          · have := ih w (by rw [hs]; simp [hw]); simp; omega
  intro x hx
  unfold splitDot at hx
  obtain ⟨w, h1, rfl⟩ := List.mem_map.1 hx
  have := key _ w h1
  rw [bs_size, bs_size s, bs_lit]
  exact this
theorem F93_is (a b : ByteArray) (ha : a.size ≤ 1099511627000) (hb : b.size ≤ 1099511627000) : F93 (a, b, ()) = some (cmpP (bs a) (bs b), ()) := by
  rw [F93_eq]
  simp only [bs_toList]
  unfold cmpP preKey
  by_cases h1 : bs a = bs b
  · simp only [h1, beq_self_eq_true, cond_true]
    simp [orC, cmpI, lin_cmpW.list.self]
  · have e1 : (bs a == bs b) = false := by simpa using h1
    rw [e1]
    simp only [cond_false]
    by_cases h2 : bs a = []
    · have h3 : bs b ≠ [] := fun h => h1 (by rw [h2, h])
      simp [h2, h3, orC, cmpI]
    · have e2 : (bs a == []) = false := by simpa using h2
      rw [e2]
      simp only [cond_false]
      by_cases h3 : bs b = []
      · simp [h2, h3, orC, cmpI]
      · have e3 : (bs b == []) = false := by simpa using h3
        have hd : lit [46] = dot := rfl
        have hla : (splitDot a).length ≤ 1099511627776 := by
          unfold splitDot
          rw [List.length_map, splitB_length]
          have : (bs a).count 46 ≤ (bs a).length := List.count_le_length
          rw [← bs_size] at this
          omega
        rw [e3, hd, F102_dot a (by omega), F102_dot b (by omega)]
        simp only [cond_false, Option.bind_some]
        rw [F114_is _ _ hla (fun x hx => by have := splitDot_sizes a x hx; omega) (fun x hx => by have := splitDot_sizes b x hx; omega)]
        have hm : ∀ s, (splitDot s).map bs = splitB 46 (bs s) := fun s => by
          unfold splitDot
          rw [List.map_map]
          have : (bs ∘ lit) = id := by funext x; rfl
          rw [this, List.map_id]
        simp [h2, h3, orC, cmpI, hm]
theorem or4 (c1 c2 c3 c4 : Int) : (([c1, c2, c3, c4].find? (· != 0)).getD 0) = orC c1 (orC c2 (orC c3 c4)) := by
  unfold orC
  by_cases h1 : c1 = 0
  · by_cases h2 : c2 = 0
    · by_cases h3 : c3 = 0
      · by_cases h4 : c4 = 0 <;> simp [h1, h2, h3, h4]
      · simp [h1, h2, h3]
    · simp [h1, h2]
  · simp [h1]
/-- A version of bounded size. -/
def okV (v : Ver) : Bool := decide (v.2.2.2.1.size ≤ 1099511627000)
def okR (r : Req) : Bool := decide (r.1.size ≤ 1099511627000) && okV r.2
theorem F67_is (a b : Ver) (ha : okV a = true) (hb : okV b = true) : F67 (a.1, a.2.1, a.2.2.1, a.2.2.2.1, b.1, b.2.1, b.2.2.1, b.2.2.2.1, ()) = some (cmpV a b, ()) := by
  rw [F67_eq, F92_is, F92_is, F92_is, F93_is _ _ (by simpa [okV] using ha) (by simpa [okV] using hb)]
  simp only [Option.bind_some]
  rw [F66_is _ (by simp)]
  simp only [Option.bind_some, cmpV, verKey, or4]
end Go.Vx.Z
/-! Pieces of a line: lists of pieces, put in order. -/
namespace Go.Vx.Pc
set_option linter.unusedVariables false
def mem {α : Type} [LE α] [LT α] (l : List (α × α)) (x : α) : Prop := ∃ p ∈ l, p.1 ≤ x ∧ x < p.2
/-- None empty, rising, apart. -/
def Nm {α : Type} [LT α] (l : List (α × α)) : Prop := l.Pairwise (fun p q => p.2 < q.1) ∧ ∀ p ∈ l, p.1 < p.2
theorem mem_nil {α : Type} [LE α] [LT α] [Std.LawfulOrderLT α] [Std.IsLinearOrder α] (x : α) : ¬ mem [] x := by simp [mem]
theorem mem_cons {α : Type} [LE α] [LT α] [Std.LawfulOrderLT α] [Std.IsLinearOrder α] {p : α × α} {l : List (α × α)} {x : α} : mem (p :: l) x ↔ (p.1 ≤ x ∧ x < p.2) ∨ mem l x := by simp [mem]
theorem mem_append {α : Type} [LE α] [LT α] [Std.LawfulOrderLT α] [Std.IsLinearOrder α] {a b : List (α × α)} {x : α} : mem (a ++ b) x ↔ mem a x ∨ mem b x := by
  induction a with
  | nil => simp [mem_nil]
  | cons p a ih => rw [List.cons_append, mem_cons, mem_cons, ih, or_assoc]
theorem mem_perm {α : Type} [LE α] [LT α] [Std.LawfulOrderLT α] [Std.IsLinearOrder α] {a b : List (α × α)} (h : a.Perm b) (x : α) : mem a x ↔ mem b x :=
  ⟨fun ⟨p, h1, h2⟩ => ⟨p, h.mem_iff.1 h1, h2⟩, fun ⟨p, h1, h2⟩ => ⟨p, h.mem_iff.2 h1, h2⟩⟩
theorem nm_cons {α : Type} [LE α] [LT α] [Std.LawfulOrderLT α] [Std.IsLinearOrder α] {p : α × α} {l : List (α × α)} : Nm (p :: l) ↔ p.1 < p.2 ∧ (∀ q ∈ l, p.2 < q.1) ∧ Nm l := by
  simp only [Nm, List.pairwise_cons, List.mem_cons, forall_eq_or_imp]
  constructor
  · rintro ⟨⟨h1, h2⟩, h3, h4⟩; exact ⟨h3, h1, h2, h4⟩
  · rintro ⟨h3, h1, h2, h4⟩; exact ⟨⟨h1, h2⟩, h3, h4⟩
theorem nm_head {α : Type} [LE α] [LT α] [Std.LawfulOrderLT α] [Std.IsLinearOrder α] {p : α × α} {l : List (α × α)} (h : Nm (p :: l)) : mem (p :: l) p.1 := by
  have := (nm_cons.1 h).1
  exact mem_cons.2 (.inl ⟨by grind, this⟩)
theorem nm_least {α : Type} [LE α] [LT α] [Std.LawfulOrderLT α] [Std.IsLinearOrder α] {p : α × α} {l : List (α × α)} (h : Nm (p :: l)) {x : α} (hx : mem (p :: l) x) : p.1 ≤ x := by
  obtain ⟨h1, h2, h3⟩ := nm_cons.1 h
  rcases mem_cons.1 hx with h4 | ⟨q, h4, h5, h6⟩
  · exact h4.1
  · have := h2 q h4; grind
theorem nm_tail {α : Type} [LE α] [LT α] [Std.LawfulOrderLT α] [Std.IsLinearOrder α] {p : α × α} {l : List (α × α)} (h : Nm (p :: l)) {x : α} (hx : mem l x) : p.2 < x := by
  obtain ⟨h1, h2, h3⟩ := nm_cons.1 h
  obtain ⟨q, h4, h5, h6⟩ := hx
  have := h2 q h4; grind
/-- What a list in order says tells the list. -/
theorem uniq {α : Type} [LE α] [LT α] [Std.LawfulOrderLT α] [Std.IsLinearOrder α] : ∀ {l l' : List (α × α)}, Nm l → Nm l' → (∀ x, mem l x ↔ mem l' x) → l = l'
  | [], [], _, _, _ => rfl
  | [], p :: l, _, h', h => absurd ((h p.1).2 (nm_head h')) (mem_nil _)
  | p :: l, [], h', _, h => absurd ((h p.1).1 (nm_head h')) (mem_nil _)
  | p :: l, q :: l', h1, h2, h => by
    have a1 : p.1 = q.1 := by
      have e1 := nm_least h2 ((h p.1).1 (nm_head h1))
      have e2 := nm_least h1 ((h q.1).2 (nm_head h2))
      grind
    have n1 := nm_cons.1 h1
    have n2 := nm_cons.1 h2
    have key : ∀ {p q : α × α} {l l' : List (α × α)}, Nm (p :: l) → p.1 = q.1 → q.1 < q.2 → (∀ x, mem (p :: l) x ↔ mem (q :: l') x) → ¬ p.2 < q.2 := by
      intro p q l l' h1 a1 hq h hlt
      have n1 := nm_cons.1 h1
      have : mem (q :: l') p.2 := mem_cons.2 (.inl ⟨by grind, hlt⟩)
      rcases mem_cons.1 ((h p.2).2 this) with h4 | h4
      · grind
      · have := nm_tail h1 h4; grind
    have a2 : p.2 = q.2 := by
      have e1 := key h1 a1 n2.1 h
      have e2 := key h2 a1.symm n1.1 (fun x => (h x).symm)
      grind
    have hp : p = q := Prod.ext a1 a2
    subst hp
    congr 1
    refine uniq n1.2.2 n2.2.2 fun x => ⟨fun hx => ?_, fun hx => ?_⟩
    · rcases mem_cons.1 ((h x).1 (mem_cons.2 (.inr hx))) with h4 | h4
      · have := nm_tail h1 hx; grind
      · exact h4
    · rcases mem_cons.1 ((h x).2 (mem_cons.2 (.inr hx))) with h4 | h4
      · have := nm_tail h2 hx; grind
      · exact h4
/-- One more piece, that begins no sooner than the last one. -/
def mrg {α : Type} [LE α] [LT α] [DecidableLE α] [DecidableLT α] (acc : List (α × α)) (p : α × α) : List (α × α) :=
  match acc.getLast? with
  | none => [p]
  | some q => if p.1 ≤ q.2 then (if q.2 < p.2 then acc.dropLast ++ [(q.1, p.2)] else acc) else acc ++ [p]
theorem nm_append {α : Type} [LE α] [LT α] [Std.LawfulOrderLT α] [Std.IsLinearOrder α] {a : List (α × α)} {q : α × α} : Nm (a ++ [q]) ↔ Nm a ∧ q.1 < q.2 ∧ ∀ r ∈ a, r.2 < q.1 := by
  simp only [Nm, List.pairwise_append, List.mem_append, List.mem_singleton, List.pairwise_cons, List.not_mem_nil, false_imp_iff, implies_true, List.Pairwise.nil, and_true, true_and, forall_eq]
  constructor
  · rintro ⟨⟨h1, h2⟩, h3⟩
    exact ⟨⟨h1, fun p hp => h3 p (.inl hp)⟩, h3 q (.inr rfl), h2⟩
  · rintro ⟨⟨h1, h4⟩, h2, h3⟩
    refine ⟨⟨h1, h3⟩, fun p hp => ?_⟩
    rcases hp with hp | rfl
    · exact h4 p hp
    · exact h2
theorem mrg_ok {α : Type} [LE α] [LT α] [Std.LawfulOrderLT α] [Std.IsLinearOrder α] [DecidableLE α] [DecidableLT α] {acc : List (α × α)} {p : α × α} (hn : Nm acc) (hp : p.1 < p.2) (hs : ∀ q ∈ acc, q.1 ≤ p.1) :
    Nm (mrg acc p) ∧ (∀ x, mem (mrg acc p) x ↔ mem acc x ∨ (p.1 ≤ x ∧ x < p.2)) ∧ ∀ q ∈ mrg acc p, q.1 ≤ p.1 := by
  unfold mrg
  rcases List.eq_nil_or_concat acc with rfl | ⟨a, q, rfl⟩
  · refine ⟨nm_cons.2 ⟨hp, by simp, by simp [Nm]⟩, fun x => by simp [mem_cons, mem_nil], by grind⟩
  · rw [List.concat_eq_append] at *
    obtain ⟨n1, n2, n3⟩ := nm_append.1 hn
    have hq := hs q (by simp)
    simp only [List.getLast?_append, List.getLast?_singleton, Option.some_or, List.dropLast_concat]
    by_cases h1 : p.1 ≤ q.2
    · rw [if_pos h1]
      by_cases h2 : q.2 < p.2
      · rw [if_pos h2]
        refine ⟨nm_append.2 ⟨n1, by grind, n3⟩, fun x => ?_, fun r hr => ?_⟩
        · rw [mem_append, mem_append, mem_cons, mem_cons]
          have := mem_nil x
          constructor
          · rintro (h | h | h)
            · exact .inl (.inl h)
            · by_cases h3 : x < q.2
              · exact .inl (.inr (.inl ⟨h.1, h3⟩))
              · exact .inr (by grind)
            · exact absurd h this
          · rintro ((h | h | h) | h)
            · exact .inl h
            · exact .inr (.inl (by grind))
            · exact absurd h this
            · exact .inr (.inl (by grind))
        · rcases List.mem_append.1 hr with h | h
          · exact hs r (by simp [h])
          · simp only [List.mem_singleton] at h; subst h; exact hq
      · rw [if_neg h2]
        refine ⟨hn, fun x => ⟨.inl, ?_⟩, hs⟩
        rintro (h | h)
        · exact h
        · exact mem_append.2 (.inr (mem_cons.2 (.inl (by grind))))
    · rw [if_neg h1]
      refine ⟨nm_append.2 ⟨hn, hp, fun r hr => ?_⟩, fun x => ?_, fun r hr => ?_⟩
      · rcases List.mem_append.1 hr with h | h
        · have := n3 r h; grind
        · simp only [List.mem_singleton] at h; subst h; grind
      · rw [mem_append, mem_cons]
        simp [mem_nil]
      · rcases List.mem_append.1 hr with h | h
        · exact hs r h
        · simp only [List.mem_singleton] at h; subst h; grind
theorem fold_ok {α : Type} [LE α] [LT α] [Std.LawfulOrderLT α] [Std.IsLinearOrder α] [DecidableLE α] [DecidableLT α] : ∀ (s acc : List (α × α)), Nm acc → (∀ p ∈ s, p.1 < p.2) → s.Pairwise (fun p q => p.1 ≤ q.1) → (∀ q ∈ acc, ∀ p ∈ s, q.1 ≤ p.1) →
    Nm (s.foldl mrg acc) ∧ ∀ x, mem (s.foldl mrg acc) x ↔ mem acc x ∨ mem s x
  | [], acc, hn, _, _, _ => ⟨hn, fun x => by simp [mem_nil]⟩
  | p :: s, acc, hn, hp, hs, ha => by
    obtain ⟨s1, s2⟩ := List.pairwise_cons.1 hs
    obtain ⟨m1, m2, m3⟩ := mrg_ok hn (hp p (by simp)) (fun q hq => ha q hq p (by simp))
    obtain ⟨r1, r2⟩ := fold_ok s (mrg acc p) m1 (fun q hq => hp q (by simp [hq])) s2 fun q hq r hr => by
      have e1 := m3 q hq
      have e2 := s1 r hr
      grind
    refine ⟨r1, fun x => ?_⟩
    rw [List.foldl_cons, r2, m2, mem_cons, or_assoc]
def full {α : Type} [LT α] [DecidableLT α] (p : α × α) : Bool := decide (p.1 < p.2)
/-- Pieces put in order. -/
def nf {α : Type} [LE α] [LT α] [DecidableLE α] [DecidableLT α] (l : List (α × α)) : List (α × α) := ((l.filter full).mergeSort fun p q => decide (p.1 ≤ q.1)).foldl mrg []
theorem mem_full {α : Type} [LE α] [LT α] [Std.LawfulOrderLT α] [Std.IsLinearOrder α] [DecidableLE α] [DecidableLT α] (l : List (α × α)) (x : α) : mem (l.filter full) x ↔ mem l x := by
  constructor
  · rintro ⟨p, h1, h2⟩
    exact ⟨p, (List.mem_filter.1 h1).1, h2⟩
  · rintro ⟨p, h1, h2, h3⟩
    exact ⟨p, List.mem_filter.2 ⟨h1, by simp only [full, decide_eq_true_eq]; grind⟩, h2, h3⟩
/-- Any such order will do. -/
theorem sorted_ok {α : Type} [LE α] [LT α] [Std.LawfulOrderLT α] [Std.IsLinearOrder α] [DecidableLE α] [DecidableLT α] {l s : List (α × α)} (hp : s.Perm (l.filter full)) (hs : s.Pairwise fun p q => p.1 ≤ q.1) : Nm (s.foldl mrg []) ∧ ∀ x, mem (s.foldl mrg []) x ↔ mem l x := by
  obtain ⟨h1, h2⟩ := fold_ok s [] (by simp [Nm]) (fun p h => by
    have := (List.mem_filter.1 (hp.mem_iff.1 h)).2
    simpa [full] using this) hs (by simp)
  refine ⟨h1, fun x => ?_⟩
  rw [h2, mem_perm hp, mem_full]
  simp [mem_nil]
theorem nf_ok {α : Type} [LE α] [LT α] [Std.LawfulOrderLT α] [Std.IsLinearOrder α] [DecidableLE α] [DecidableLT α] (l : List (α × α)) : Nm (nf l) ∧ ∀ x, mem (nf l) x ↔ mem l x := by
  refine sorted_ok (List.mergeSort_perm _ _) ?_
  have := List.pairwise_mergeSort (le := fun p q : α × α => decide (p.1 ≤ q.1)) (fun a b c h1 h2 => by simp only [decide_eq_true_eq] at *; grind) (fun a b => by simp only [Bool.or_eq_true, decide_eq_true_eq]; grind) (l.filter full)
  exact this.imp fun h => by simpa using h
theorem sorted_nf {α : Type} [LE α] [LT α] [Std.LawfulOrderLT α] [Std.IsLinearOrder α] [DecidableLE α] [DecidableLT α] {l s : List (α × α)} (hp : s.Perm (l.filter full)) (hs : s.Pairwise fun p q => p.1 ≤ q.1) : s.foldl mrg [] = nf l := by
  obtain ⟨h1, h2⟩ := sorted_ok hp hs
  obtain ⟨h3, h4⟩ := nf_ok l
  exact uniq h1 h3 fun x => by rw [h2, h4]
theorem nf_iff {α : Type} [LE α] [LT α] [Std.LawfulOrderLT α] [Std.IsLinearOrder α] [DecidableLE α] [DecidableLT α] {l l' : List (α × α)} : nf l = nf l' ↔ ∀ x, mem l x ↔ mem l' x := by
  constructor
  · intro h x
    rw [← (nf_ok l).2, ← (nf_ok l').2, h]
  · intro h
    exact uniq (nf_ok l).1 (nf_ok l').1 fun x => by rw [(nf_ok l).2, (nf_ok l').2, h]
theorem nf_nm {α : Type} [LE α] [LT α] [Std.LawfulOrderLT α] [Std.IsLinearOrder α] [DecidableLE α] [DecidableLT α] {l : List (α × α)} (h : Nm l) : nf l = l := uniq (nf_ok l).1 h (nf_ok l).2
/-! Both, none. -/
def meet {α : Type} [LT α] [DecidableLT α] (p q : α × α) : α × α := (if p.1 < q.1 then q.1 else p.1, if q.2 < p.2 then q.2 else p.2)
def meets {α : Type} [LT α] [DecidableLT α] (a b : List (α × α)) : List (α × α) := a.flatMap fun p => b.map (meet p)
theorem mem_meets {α : Type} [LE α] [LT α] [Std.LawfulOrderLT α] [Std.IsLinearOrder α] [DecidableLE α] [DecidableLT α] {a b : List (α × α)} {x : α} : mem (meets a b) x ↔ mem a x ∧ mem b x := by
  constructor
  · rintro ⟨r, h1, h2, h3⟩
    obtain ⟨p, hp, h1⟩ := List.mem_flatMap.1 h1
    obtain ⟨q, hq, rfl⟩ := List.mem_map.1 h1
    unfold meet at h2 h3
    exact ⟨⟨p, hp, by grind⟩, ⟨q, hq, by grind⟩⟩
  · rintro ⟨⟨p, hp, h1⟩, ⟨q, hq, h2⟩⟩
    refine ⟨meet p q, List.mem_flatMap.2 ⟨p, hp, List.mem_map.2 ⟨q, hq, rfl⟩⟩, ?_⟩
    unfold meet
    grind
def gaps {α : Type} : α → List (α × α) → α → List (α × α)
  | at_, [], top => [(at_, top)]
  | at_, p :: l, top => (at_, p.1) :: gaps p.2 l top
theorem mem_gaps {α : Type} [LE α] [LT α] [Std.LawfulOrderLT α] [Std.IsLinearOrder α] {top : α} : ∀ {l : List (α × α)} {at_ : α}, Nm l → (∀ p ∈ l, at_ ≤ p.1 ∧ p.2 ≤ top) → ∀ x, mem (gaps at_ l top) x ↔ at_ ≤ x ∧ x < top ∧ ¬ mem l x
  | [], at_, _, _, x => by
    have := mem_nil x
    simp only [gaps, mem_cons]
    grind
  | p :: l, at_, hn, hb, x => by
    obtain ⟨n1, n2, n3⟩ := nm_cons.1 hn
    have b1 := hb p (by simp)
    have ih := mem_gaps (top := top) (l := l) (at_ := p.2) n3 (fun q hq => ⟨by have := n2 q hq; grind, (hb q (by simp [hq])).2⟩) x
    rw [gaps, mem_cons, mem_cons, ih]
    by_cases h : mem l x
    · have := nm_tail hn h
      grind
    · grind
/-- Spans that lie between two places. -/
def In {α : Type} [LE α] [LT α] (a b : α) (l : List (α × α)) : Prop := ∀ x, mem l x → a ≤ x ∧ x < b
theorem in_of {α : Type} [LE α] [LT α] [Std.LawfulOrderLT α] [Std.IsLinearOrder α] {a b : α} {l : List (α × α)} (h : ∀ p ∈ l, a ≤ p.1 ∧ p.2 ≤ b) : In a b l := fun x ⟨p, h1, h2, h3⟩ => by have := h p h1; grind
theorem of_in {α : Type} [LE α] [LT α] [Std.LawfulOrderLT α] [Std.IsLinearOrder α] {a b : α} {l : List (α × α)} (hn : Nm l) (h : In a b l) : ∀ p ∈ l, a ≤ p.1 ∧ p.2 ≤ b := by
  intro p hp
  have hp2 := hn.2 p hp
  have e1 := h p.1 ⟨p, hp, by grind, hp2⟩
  refine ⟨e1.1, ?_⟩
  by_cases h3 : p.2 ≤ b
  · exact h3
  · have := h b ⟨p, hp, by grind, by grind⟩
    grind
end Go.Vx.Pc
/-! Places between versions. -/
namespace Go.Vx
open Go Go.Proofs
set_option linter.unusedVariables false
/-- A place: at a version, behind it (b = 1), at the end (e = 1). -/
structure Pt where
  e : Int
  v : Ver
  b : Int
def Pt.key (p : Pt) : Int × Ver × Int := (p.e, p.v, p.b)
def Pt.c (p q : Pt) : Int := (fun (x y : Int × Ver × Int) => orC (cmpI x.1 y.1) (orC (cmpV x.2.1 y.2.1) (cmpI x.2.2 y.2.2))) p.key q.key
theorem lin_pt : Lin Pt.c := (lin_cmpI.prod (lin_cmpV.prod lin_cmpI)).pull Pt.key fun x y h => by
  cases x; cases y
  simp only [Pt.key, Prod.mk.injEq] at h
  obtain ⟨h1, h2, h3⟩ := h
  rw [h1, h2, h3]
theorem Lin.lt_trans {α : Type} {c : α → α → Int} (h : Lin c) {x y z : α} (h1 : c x y ≤ 0) (h2 : c y z ≤ 0) : c x z ≤ 0 := by
  rcases h.rng x y with e | e | e
  · rcases h.rng y z with f | f | f
    · rw [h.trans x y z e f]; omega
    · rw [← (h.eq0 y z).1 f]; omega
    · omega
  · rw [(h.eq0 x y).1 e]; exact h2
  · omega
instance : LE Pt := ⟨fun a b => a.c b ≤ 0⟩
instance : LT Pt := ⟨fun a b => a.c b < 0⟩
theorem pt_le {a b : Pt} : a ≤ b ↔ a.c b ≤ 0 := Iff.rfl
theorem pt_lt {a b : Pt} : a < b ↔ a.c b < 0 := Iff.rfl
instance : DecidableLE Pt := fun a b => inferInstanceAs (Decidable (a.c b ≤ 0))
instance : DecidableLT Pt := fun a b => inferInstanceAs (Decidable (a.c b < 0))
instance : Std.IsLinearOrder Pt where
  le_refl a := by rw [pt_le, lin_pt.self]; omega
  le_trans a b c := fun h1 h2 => lin_pt.lt_trans h1 h2
  le_antisymm a b := fun h1 h2 => by
    rw [pt_le] at *
    rw [lin_pt.anti a b] at h2
    exact (lin_pt.eq0 a b).1 (by omega)
  le_total a b := by
    rw [pt_le, pt_le, lin_pt.anti a b]; omega
instance : Std.LawfulOrderLT Pt where
  lt_iff a b := by rw [pt_lt, pt_le, pt_le, lin_pt.anti a b]; omega
namespace Z
def v0 : Ver := (0, 0, 0, lit [], ())
def ptOf (v : Ver) (b e : Bool) : Pt := if e then ⟨1, v0, 0⟩ else ⟨0, v, if b then 1 else 0⟩
abbrev Piece := Int × Int × Int × ByteArray × Bool × Bool × Int × Int × Int × ByteArray × Bool × Bool × Unit
abbrev Span := Int × Int × Int × ByteArray × Int × Int × Int × ByteArray × Bool × Bool × Bool × Unit
def Piece.fv (p : Piece) : Ver := (p.1, p.2.1, p.2.2.1, p.2.2.2.1, ())
def Piece.tv (p : Piece) : Ver := (p.2.2.2.2.2.2.1, p.2.2.2.2.2.2.2.1, p.2.2.2.2.2.2.2.2.1, p.2.2.2.2.2.2.2.2.2.1, ())
def Piece.fb (p : Piece) : Bool := p.2.2.2.2.1
def Piece.fe (p : Piece) : Bool := p.2.2.2.2.2.1
def Piece.tb (p : Piece) : Bool := p.2.2.2.2.2.2.2.2.2.2.1
def Piece.te (p : Piece) : Bool := p.2.2.2.2.2.2.2.2.2.2.2.1
def Piece.fp (p : Piece) : Pt := ptOf p.fv p.fb p.fe
def Piece.tp (p : Piece) : Pt := ptOf p.tv p.tb p.te
def Piece.pp (p : Piece) : Pt × Pt := (p.fp, p.tp)
def okPc (p : Piece) : Bool := okV p.fv && okV p.tv
theorem F65_is (b : Bool) : F65 (b, ()) = some ((if b then 1 else 0), ()) := by cases b <;> rfl
theorem or2 (a b : Int) : F66 ([a, b], ()) = some (orC a b, ()) := by
  rw [F66_is _ (by simp)]
  congr 2
  simp only [List.find?_cons, List.find?_nil, orC]
  by_cases h1 : a = 0
  · subst h1
    by_cases h2 : b = 0
    · subst h2; rfl
    · have : (b != 0) = true := by simpa using h2
      simp [this]
  · have : (a != 0) = true := by simpa using h1
    simp [this, h1]
theorem sub_cmp (a b : Bool) : IntKind.wrap IntKind.i64 ((if a then (1 : Int) else 0) - (if b then 1 else 0)) = cmpI (if a then 1 else 0) (if b then 1 else 0) := by
  cases a <;> cases b <;> decide
theorem F40_is (u v : Ver) (a b c d : Bool) (hu : okV u = true) (hv : okV v = true) : F40 (u.1, u.2.1, u.2.2.1, u.2.2.2.1, a, b, v.1, v.2.1, v.2.2.1, v.2.2.2.1, c, d, ()) = some ((ptOf u a b).c (ptOf v c d), ()) := by
  rw [F40_eq]
  simp only [F65_is, Option.bind_some, sub_cmp]
  cases b with
  | true =>
    simp only [cond_true, ptOf, if_true]
    cases d with
    | true => simp only [if_true, lin_pt.self, lin_cmpI.self]
    | false =>
      simp only [Bool.false_eq_true, if_false, Pt.c, Pt.key]
      congr 1
  | false =>
    cases d with
    | true =>
      simp only [cond_true, cond_false, ptOf, if_true, Bool.false_eq_true, if_false, Pt.c, Pt.key]
      congr 1
    | false =>
      simp only [cond_false, ptOf, Bool.false_eq_true, if_false, Pt.c, Pt.key]
      rw [F67_is u v hu hv, Option.bind_some, or2, Option.bind_some]
      have : cmpI 0 0 = 0 := by decide
      rw [this]
      simp only [orC, if_true]
/-- By where they begin. -/
def cmpPc (p q : Piece) : Int := p.fp.c q.fp
theorem F71_is (p q : Piece) (hp : okPc p = true) (hq : okPc q = true) : F71 (toP r8 p (toP r8 q ())) = some (cmpPc p q, ()) := by
  simp only [okPc, Bool.and_eq_true] at hp hq
  show F71 (p.1, p.2.1, p.2.2.1, p.2.2.2.1, p.2.2.2.2.1, p.2.2.2.2.2.1, p.2.2.2.2.2.2.1, p.2.2.2.2.2.2.2.1, p.2.2.2.2.2.2.2.2.1, p.2.2.2.2.2.2.2.2.2.1, p.2.2.2.2.2.2.2.2.2.2.1, p.2.2.2.2.2.2.2.2.2.2.2.1, q.1, q.2.1, q.2.2.1, q.2.2.2.1, q.2.2.2.2.1, q.2.2.2.2.2.1, q.2.2.2.2.2.2.1, q.2.2.2.2.2.2.2.1, q.2.2.2.2.2.2.2.2.1, q.2.2.2.2.2.2.2.2.2.1, q.2.2.2.2.2.2.2.2.2.2.1, q.2.2.2.2.2.2.2.2.2.2.2.1, ()) = _
  rw [F71_eq]
  have := F40_is p.fv q.fv p.fb p.fe q.fb q.fe hp.1 hq.1
  simp only [Piece.fv, Piece.fb, Piece.fe] at this
  rw [this]
  rfl
theorem swo_pc : Sort.SWO (ltOf cmpPc) := swo_at lin_pt.swo Piece.fp
end Z
end Go.Vx
