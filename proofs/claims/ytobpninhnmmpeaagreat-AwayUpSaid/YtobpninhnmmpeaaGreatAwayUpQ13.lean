import Derived.Test.YtobpninhnmmpeaaGreatAwayUpQ5
import Derived.Test.YtobpninhnmmpeaaGreatAwayUpQ10
set_option linter.unusedSimpArgs false
set_option linter.unusedVariables false
namespace Go.Aev.Gen
open Go Go.Aev
noncomputable abbrev Kq3n11 : Key := nodeKey PROG 3 true 11 [(0, none), (1, none), (2, none), (3, none), (9, none), (10, none), (13, none), (14, none)] (0, 0)
noncomputable abbrev K21n4 : Key := nodeKey PROG 29 true 4 [(0, none), (1, none), (2, none), (3, none), (10, some 3), (11, some 1), (12, none)] (0, 0)
noncomputable abbrev Kq68n3 : Key := nodeKey PROG 68 true 3 [(1, none), (2, none), (3, none), (7, some 0), (8, none)] (0, 0)
noncomputable abbrev K48n5 : Key := nodeKey PROG 67 true 5 [(1, none), (2, none), (3, none), (6, none), (7, some 1000001), (8, none)] (0, 0)
theorem eq3 (O : Orc) (er : Bool) (r : List (List T)) (n k : Int) (ep : Bool) (p : List (List T)) : stepO PROG ann O (Key.call 3) [AV.t (T.lst 3 er r), I n, I k, AV.t (T.lst 2 ep p)] [] =
  (gdK none (O (Key.call 6) [AV.t (T.lst 3 er r), I n, I k, AV.t (T.lst 2 ep p)] []) fun l => gdK none l.head? fun x => gdK none (T.int? IntKind.i64 x) fun n_1 => gdK none l.tail.head? fun x => gdK none (T.int? IntKind.i64
 x) fun n_2 => gdK none (List.drop 2 l).head? fun x => gdK none (T.int? IntKind.i64 x) fun n_3 => gdK none (List.drop 2 l).tail.head? fun x => gdK none (T.int? IntKind.i64 x) fun n_4 => gdK none (O (Key.call 6) [AV.t
 (T.lst 3 true []), I (-1 : Int), I (0 : Int), AV.t (T.lst 2 true [])] []) fun l => gdK none l.head? fun x => gdK none (T.int? IntKind.i64 x) fun n_5 => gdK none l.tail.head? fun x => gdK none (T.int? IntKind.i64 x) fun
 n_6 => gdK none (List.drop 2 l).head? fun x => gdK none (T.int? IntKind.i64 x) fun n_7 => gdK none (List.drop 2 l).tail.head? fun x => gdK none (T.int? IntKind.i64 x) fun n_8 => gdK none (O (Key.call 7) [AV.t (T.lst 3 er
 r), I n] []) fun l => gdK none l.head? fun x => gdK none (T.int? IntKind.i64 x) fun n_9 => gdK none l.tail.head? fun x => gdK none (T.int? IntKind.i64 x) fun n_10 => gdK none (O (Key.call 8) [I (3 : Int), I (-1 : Int)]
 []) fun l => gdK none l.head? fun x => gdK none (T.int? IntKind.i64 x) fun n_11 => gdK none l.tail.head? fun x => gdK none (T.int? IntKind.i64 x) fun n_12 => bif !(n_7 == n_11 && (n_8 == n_12 && true)) then some [T.bool
 false] else bif bif n_9 == (0 : Int) then bif decide (k < (0 : Int)) then true else decide (k ≥ n) else false then gdK none (O (Key.call 8) [I (3 : Int), I (-1 : Int)] []) fun l => gdK none l.head? fun x => gdK none
 (T.int? IntKind.i64 x) fun n_13 => gdK none l.tail.head? fun x => gdK none (T.int? IntKind.i64 x) fun n_14 => bif bif n_13 == (0 : Int) then !(↑p.length : Int) == n else false then gdK none (O (Key.call 8) [I (9 : Int), I
 (0 : Int)] []) fun l => gdK none l.head? fun x => gdK none (T.int? IntKind.i64 x) fun n_15 => gdK none l.tail.head? fun x => gdK none (T.int? IntKind.i64 x) fun n_16 => O Kq3n11 [AV.t (T.lst 3 er r), I n, I k, AV.t (T.lst
 2 ep p), AV.ref (Id.c 0) 0, AV.ref (Id.c 1) 0, AV.ref (Id.c 2) 0, AV.t (T.int IntKind.i64 (0 : Int))] [Blk.box [I n_1, I n_2], Blk.box [I n_3, I n_4], Blk.box [I n_15, AV.t (T.int IntKind.i64 n_16)]] else O Kq3n11 [AV.t
 (T.lst 3 er r), I n, I k, AV.t (T.lst 2 ep p), AV.ref (Id.c 0) 0, AV.ref (Id.c 1) 0, AV.ref (Id.c 2) 0, I (0 : Int)] [Blk.box [I n_1, I n_2], Blk.box [I n_3, I n_4], Blk.box [I n_13, I n_14]] else bif bif n_9 == (0 : Int)
 then !(↑p.length : Int) == n else false then gdK none (O (Key.call 8) [I (9 : Int), I (0 : Int)] []) fun l => gdK none l.head? fun x => gdK none (T.int? IntKind.i64 x) fun n_13 => gdK none l.tail.head? fun x => gdK none
 (T.int? IntKind.i64 x) fun n_14 => O Kq3n11 [AV.t (T.lst 3 er r), I n, I k, AV.t (T.lst 2 ep p), AV.ref (Id.c 0) 0, AV.ref (Id.c 1) 0, AV.ref (Id.c 2) 0, I (0 : Int)] [Blk.box [I n_1, I n_2], Blk.box [I n_3, I n_4],
 Blk.box [I n_13, I n_14]] else O Kq3n11 [AV.t (T.lst 3 er r), I n, I k, AV.t (T.lst 2 ep p), AV.ref (Id.c 0) 0, AV.ref (Id.c 1) 0, AV.ref (Id.c 2) 0, I (0 : Int)] [Blk.box [I n_1, I n_2], Blk.box [I n_3, I n_4], Blk.box [I
 n_9, I n_10]]) := by kernel_rfl
theorem eq3n11 (O : Orc) (ev0 : Bool) (v0 : List (List T)) (v1 : Int) (v2 : Int) (ev3 : Bool) (v3 : List (List T)) (v14 : Int) (c0_0 : Int) (c0_1 : Int) (c1_0 : Int) (c1_1 : Int) (c2_0 : Int) (c2_1 : Int) : stepO PROG ann O Kq3n11 [(AV.t (T.lst 3 ev0 v0)), (I v1), (I v2), (AV.t (T.lst 2 ev3 v3)), (AV.ref (Id.c 0) 0), (AV.ref (Id.c 1) 0), (AV.ref (Id.c 2) 0), (I v14)] [(Blk.box [(I c0_0), (I c0_1)]), (Blk.box [(I c1_0), (I c1_1)]), (Blk.box [(I c2_0), (I c2_1)])] =
  (bif bif decide (v14 < (↑v3.length : Int)) then c2_0 == (0 : Int) else false then gdK (some !v14 == v2) (if (0 : Int) ≤ v14 ∧ v14 < (↑v3.length : Int) then some () else none) fun x => gdK (some !v14 == v2) v3[v14.toNat]?
 fun l => gdK (some !v14 == v2) l.head? fun x => gdK (some !v14 == v2) l.tail.head? fun x_1 => gdK (some !v14 == v2) (T.int? IntKind.i64 x) fun n => gdK (some !v14 == v2) (T.int? IntKind.i64 x_1) fun n_1 => gdK none (askO
 (some !v14 == v2) (O (Key.call 9) [AV.agg [I n, I n_1]] [])) fun l => gdK (some !v14 == v2) l.head? fun x => gdK (some !v14 == v2) x.bool? fun b => bif bif !v14 == v2 then !b else false then gdK none (O (Key.call 8) [I (5
 : Int), I v14] []) fun l => gdK none l.head? fun x => gdK none (T.int? IntKind.i64 x) fun n => gdK none l.tail.head? fun x => gdK none (T.int? IntKind.i64 x) fun n_2 => O Kq3n11 [AV.t (T.lst 3 ev0 v0), I v1, I v2, AV.t
 (T.lst 2 ev3 v3), AV.ref (Id.c 0) 0, AV.ref (Id.c 1) 0, AV.ref (Id.c 2) 0, I (IntKind.i64.wrap (v14 + (1 : Int)))] [Blk.box [I c0_0, I c0_1], Blk.box [I c1_0, I c1_1], Blk.box [I n, I n_2]] else O Kq3n11 [AV.t (T.lst 3 ev0
 v0), I v1, I v2, AV.t (T.lst 2 ev3 v3), AV.ref (Id.c 0) 0, AV.ref (Id.c 1) 0, AV.ref (Id.c 2) 0, I (IntKind.i64.wrap (v14 + (1 : Int)))] [Blk.box [I c0_0, I c0_1], Blk.box [I c1_0, I c1_1], Blk.box [I c2_0, I c2_1]] else
 bif !c2_0 == (0 : Int) then some [T.bool (bif c1_0 == c2_0 && (c1_1 == c2_1 && true) then c0_0 == (0 : Int) && (c0_1 == (0 : Int) && true) else false)] else gdK none (O (Key.call 10) [AV.t (T.lst 3 ev0 v0), I v1, I v2,
 AV.t (T.lst 2 ev3 v3)] []) fun l => gdK none l.head? fun x => gdK none (T.int? IntKind.i64 x) fun n => gdK none l.tail.head? fun x => gdK none (T.int? IntKind.i64 x) fun n_1 => gdK none (List.drop 2 l).head? fun x => gdK
 none (T.int? IntKind.i64 x) fun n_2 => gdK none (List.drop 2 l).tail.head? fun x => gdK none (T.int? IntKind.i64 x) fun n_3 => some [T.bool (bif c1_0 == n_2 && (c1_1 == n_3 && true) then c0_0 == n && (c0_1 == n_1 && true)
 else false)]) := by kernel_rfl
theorem eq5 (O : Orc) (er : Bool) (r : List (List T)) (n k : Int) (ep : Bool) (p : List (List T)) : stepO PROG ann O (Key.call 5) [AV.t (T.lst 3 er r), I n, I k, AV.t (T.lst 2 ep p)] [] =
  (gdK none (O (Key.call 11) [] []) fun l => gdK none l.head? fun x => gdK none x.bool? fun b => bif !b then some [T.bool false] else gdK none (O (Key.call 12) [AV.t (T.lst 3 er r), I n, I k] []) fun l => gdK none l.head?
 fun x => gdK none (T.lst? 3 x) fun p_1 => gdK none l.tail.head? fun x => gdK none (T.int? IntKind.i64 x) fun n_1 => gdK none l.tail.tail.head? fun x => gdK none (T.int? IntKind.i64 x) fun n_2 => gdK none (O (Key.call 6)
 [AV.t (T.lst 3 er r), I n, I k, AV.t (T.lst 2 ep p)] []) fun l => gdK none l.head? fun x => gdK none (T.int? IntKind.i64 x) fun n_3 => gdK none l.tail.head? fun x => gdK none (T.int? IntKind.i64 x) fun n_4 => gdK none
 (List.drop 2 l).head? fun x => gdK none (T.int? IntKind.i64 x) fun n_5 => gdK none (List.drop 2 l).tail.head? fun x => gdK none (T.int? IntKind.i64 x) fun n_6 => bif bif !n_1 == (0 : Int) then true else bif !n_5 == (0 :
 Int) then !n_5 == (6 : Int) else false then some [T.bool (bif n_1 == (0 : Int) then true else (↑p_1.snd.length : Int) == (0 : Int))] else gdK none (small 16 p.length) fun x => bif bif bif !(↑p.length : Int) == n then true
 else decide (k < (0 : Int)) then true else decide (k ≥ n) then some [T.bool false] else gdK none (if (0 : Int) ≤ k ∧ k < (↑p.length : Int) then some () else none) fun x => gdK none (storeIn k.toNat 0 [T.int IntKind.i64 (0
 : Int), T.int IntKind.i64 (1 : Int)] p) fun l => gdK none (O (Key.call 14) [AV.t (T.lst 3 p_1.fst p_1.snd), AV.t (T.lst 2 p.isEmpty l)] []) fun l_1 => gdK none l_1.head? fun x => gdK none x.bool? fun b => bif !b then some
 [T.bool true] else gdK none (if (0 : Int) ≤ k ∧ k < (↑l.length : Int) then some () else none) fun x => gdK none (storeIn k.toNat 0 [T.int IntKind.i64 n_3, T.int IntKind.i64 n_4] l) fun l => gdK none (askO (some (n_5 == (0
 : Int))) (O (Key.call 14) [AV.t (T.lst 3 er r), AV.t (T.lst 2 p.isEmpty l)] [])) fun l => gdK (some (n_5 == (0 : Int))) l.head? fun x => gdK (some (n_5 == (0 : Int))) x.bool? fun b => some [T.bool (bif n_5 == (0 : Int)
 then b else false)]) := by kernel_rfl
theorem e21 (O : Orc) (ea0 : Bool) (a0 : List (List T)) (a1 : Int) (a2 : Int) (a3 : Int) : stepO PROG ann O (Key.call 29) [(AV.t (T.lst 3 ea0 a0)), (I a1), (I a2), (I a3)] [] =
  (O K21n4 [AV.t (T.lst 3 ea0 a0), I a1, I a2, I a3, AV.own (Id.c 0), AV.own (Id.c 1), I (0 : Int)] [Blk.sl false 3 true [], Blk.sl false 1 true []]) := by kernel_rfl
theorem e21n4 (O : Orc) (ev0 : Bool) (v0 : List (List T)) (v1 : Int) (v2 : Int) (v3 : Int) (v12 : Int) (ec0 : Bool) (c0 : List (List T)) (ec1 : Bool) (c1 : List (List T)) : stepO PROG ann O K21n4 [(AV.t (T.lst 3 ev0 v0)), (I v1), (I v2), (I v3), (AV.own (Id.c 0)), (AV.own (Id.c 1)), (I v12)] [(Blk.sl false 3 ec0 c0), (Blk.sl false 1 ec1 c1)] =
  (bif decide (v12 < (↑v0.length : Int)) then gdK none (if (0 : Int) ≤ v12 ∧ v12 < (↑v0.length : Int) then some () else none) fun x => gdK none v0[v12.toNat]? fun l => gdK none l.head? fun x => gdK none l.tail.head? fun x_1
 => gdK none l.tail.tail.head? fun x_2 => gdK none (T.lst? 1 x) fun p => gdK none (T.int? IntKind.i64 x_1) fun n => gdK none (T.int? IntKind.i64 x_2) fun n_1 => gdK none (O (Key.call 66) [AV.agg [AV.t (T.lst 1 p.fst
 p.snd), I n, I n_1], I v2] []) fun l => gdK none l.head? fun x => gdK none (T.int? IntKind.i64 x) fun n => bif decide (IntKind.i64.wrap (v3 * n) > (0 : Int)) then gdK none (if (0 : Int) ≤ v12 ∧ v12 < (↑v0.length : Int)
 then some () else none) fun x => gdK none v0[v12.toNat]? fun l => gdK none l.head? fun x => gdK none l.tail.head? fun x_3 => gdK none l.tail.tail.head? fun x_4 => gdK none (T.lst? 1 x) fun p => gdK none (T.int?
 IntKind.i64 x_3) fun n_2 => gdK none (T.int? IntKind.i64 x_4) fun n_3 => gdK none (O (Key.call 67) [AV.agg [AV.t (T.lst 1 p.fst p.snd), I n_2, I n_3], I v1, I (1 : Int)] []) fun l => gdK none l.head? fun x => gdK none
 (T.lst? 1 x) fun p => gdK none l.tail.head? fun x => gdK none (T.int? IntKind.i64 x) fun n_4 => gdK none l.tail.tail.head? fun x => gdK none (T.int? IntKind.i64 x) fun n_5 => gdK none (small 40 (c0.length + [[T.lst 1
 p.fst p.snd, T.int IntKind.i64 n_4, T.int IntKind.i64 n_5]].length)) fun x => gdK none (small 8 (c1.length + [[T.int IntKind.i64 v12]].length)) fun x => gdK (some (decide (IntKind.i64.wrap (v3 * n) < (0 : Int)))) (if (0 :
 Int) ≤ v12 ∧ v12 < (↑v0.length : Int) then some () else none) fun x => gdK (some (decide (IntKind.i64.wrap (v3 * n) < (0 : Int)))) v0[v12.toNat]? fun l => gdK (some (decide (IntKind.i64.wrap (v3 * n) < (0 : Int))))
 (List.drop 1 l).head? fun x => gdK (some (decide (IntKind.i64.wrap (v3 * n) < (0 : Int)))) (T.int? IntKind.i64 x) fun n_6 => bif bif decide (IntKind.i64.wrap (v3 * n) < (0 : Int)) then n_6 == (3 : Int) else false then gdK
 none (if (0 : Int) ≤ v12 ∧ v12 < (↑v0.length : Int) then some () else none) fun x => gdK none v0[v12.toNat]? fun l => gdK none l.head? fun x => gdK none l.tail.head? fun x_5 => gdK none l.tail.tail.head? fun x_6 => gdK
 none (T.lst? 1 x) fun p_1 => gdK none (T.int? IntKind.i64 x_5) fun n => gdK none (T.int? IntKind.i64 x_6) fun n_7 => gdK none (O (Key.call 67) [AV.agg [AV.t (T.lst 1 p_1.fst p_1.snd), AV.t (T.int IntKind.i64 n), AV.t
 (T.int IntKind.i64 n_7)], I v1, AV.t (T.int IntKind.i64 (-1 : Int))] []) fun l => gdK none l.head? fun x => gdK none (T.lst? 1 x) fun p_2 => gdK none l.tail.head? fun x => gdK none (T.int? IntKind.i64 x) fun n => gdK none
 l.tail.tail.head? fun x => gdK none (T.int? IntKind.i64 x) fun n_8 => gdK none (small 40 ((c0 ++ [[T.lst (1 : Nat) p.fst p.snd, T.int IntKind.i64 n_4, T.int IntKind.i64 n_5]]).length + [[T.lst (1 : Nat) p_2.fst p_2.snd,
 T.int IntKind.i64 n, T.int IntKind.i64 n_8]].length)) fun x => gdK none (small 8 ((c1 ++ [[T.int IntKind.i64 v12]]).length + [[T.int IntKind.i64 v12]].length)) fun x => O (nodeKey PROG 29 true 4 [(0, none), ((1 : Nat),
 none), ((2 : Nat), none), ((3 : Nat), none), ((10 : Nat), some (3 : Nat)), ((11 : Nat), some (1 : Nat)), ((12 : Nat), none)] (0, (0 : Nat))) [AV.t (T.lst (3 : Nat) ev0 v0), AV.t (T.int IntKind.i64 v1), AV.t (T.int
 IntKind.i64 v2), AV.t (T.int IntKind.i64 v3), AV.own (Id.c (0 : Nat)), AV.own (Id.c (1 : Nat)), AV.t (T.int IntKind.i64 (IntKind.i64.wrap (v12 + (1 : Int))))] [Blk.sl false 3 (ec0 && false && false) (c0 ++ [[T.lst (1 :
 Nat) p.fst p.snd, T.int IntKind.i64 n_4, T.int IntKind.i64 n_5]] ++ [[T.lst (1 : Nat) p_2.fst p_2.snd, T.int IntKind.i64 n, T.int IntKind.i64 n_8]]), Blk.sl false 1 (ec1 && false && false) (c1 ++ [[T.int IntKind.i64 v12]]
 ++ [[T.int IntKind.i64 v12]])] else O K21n4 [AV.t (T.lst 3 ev0 v0), I v1, I v2, I v3, AV.own (Id.c 0), AV.own (Id.c 1), AV.t (T.int IntKind.i64 (IntKind.i64.wrap (v12 + (1 : Int))))] [Blk.sl false 3 (ec0 && false) (c0 ++
 [[T.lst 1 p.fst p.snd, T.int IntKind.i64 n_4, T.int IntKind.i64 n_5]]), Blk.sl false 1 (ec1 && false) (c1 ++ [[T.int IntKind.i64 v12]])] else gdK (some (decide (IntKind.i64.wrap (v3 * n) < (0 : Int)))) (if (0 : Int) ≤ v12
 ∧ v12 < (↑v0.length : Int) then some () else none) fun x => gdK (some (decide (IntKind.i64.wrap (v3 * n) < (0 : Int)))) v0[v12.toNat]? fun l => gdK (some (decide (IntKind.i64.wrap (v3 * n) < (0 : Int)))) (List.drop 1
 l).head? fun x => gdK (some (decide (IntKind.i64.wrap (v3 * n) < (0 : Int)))) (T.int? IntKind.i64 x) fun n_2 => bif bif decide (IntKind.i64.wrap (v3 * n) < (0 : Int)) then n_2 == (3 : Int) else false then gdK none (if (0
 : Int) ≤ v12 ∧ v12 < (↑v0.length : Int) then some () else none) fun x => gdK none v0[v12.toNat]? fun l => gdK none l.head? fun x => gdK none l.tail.head? fun x_3 => gdK none l.tail.tail.head? fun x_4 => gdK none (T.lst? 1
 x) fun p => gdK none (T.int? IntKind.i64 x_3) fun n => gdK none (T.int? IntKind.i64 x_4) fun n_3 => gdK none (O (Key.call 67) [AV.agg [AV.t (T.lst 1 p.fst p.snd), I n, I n_3], I v1, I (-1 : Int)] []) fun l => gdK none
 l.head? fun x => gdK none (T.lst? 1 x) fun p => gdK none l.tail.head? fun x => gdK none (T.int? IntKind.i64 x) fun n => gdK none l.tail.tail.head? fun x => gdK none (T.int? IntKind.i64 x) fun n_4 => gdK none (small 40
 (c0.length + [[T.lst 1 p.fst p.snd, T.int IntKind.i64 n, T.int IntKind.i64 n_4]].length)) fun x => gdK none (small 8 (c1.length + [[T.int IntKind.i64 v12]].length)) fun x => O K21n4 [AV.t (T.lst 3 ev0 v0), I v1, I v2, I
 v3, AV.own (Id.c 0), AV.own (Id.c 1), AV.t (T.int IntKind.i64 (IntKind.i64.wrap (v12 + (1 : Int))))] [Blk.sl false 3 (ec0 && false) (c0 ++ [[T.lst 1 p.fst p.snd, T.int IntKind.i64 n, T.int IntKind.i64 n_4]]), Blk.sl false
 1 (ec1 && false) (c1 ++ [[T.int IntKind.i64 v12]])] else O K21n4 [AV.t (T.lst 3 ev0 v0), I v1, I v2, I v3, AV.own (Id.c 0), AV.own (Id.c 1), I (IntKind.i64.wrap (v12 + (1 : Int)))] [Blk.sl false 3 ec0 c0, Blk.sl false 1
 ec1 c1] else some [T.lst 3 ec0 c0, T.lst 1 ec1 c1]) := by kernel_rfl
theorem eq68 (O : Orc) (ea0_0 : Bool) (a0_0 : List (List T)) (a0_1 : Int) (a0_2 : Int) (a1 : Int) (ea2 : Bool) (a2 : List (List T)) : stepO PROG ann O (Key.call 68) [(AV.agg [(AV.t (T.lst 1 ea0_0 a0_0)), (I a0_1), (I a0_2)]), (I a1), (AV.t (T.lst 2 ea2 a2))] [] =
  (gdK none (O (Key.call 31) [I a0_2, I (1 : Int)] []) fun l => gdK none l.head? fun x => O Kq68n3 [I a1, AV.t (T.lst 2 ea2 a2), AV.ref (Id.c 0) 0, AV.t x, I (0 : Int)] [Blk.box [AV.t (T.lst 1 ea0_0 a0_0), I a0_1, I a0_2]]) := by kernel_rfl
theorem e12 (O : Orc) (ea0_0 : Bool) (a0_0 : List (List T)) (a0_1 : Int) (a0_2 : Int) (a1 : Int) : stepO PROG ann O (Key.call 66) [(AV.agg [(AV.t (T.lst 1 ea0_0 a0_0)), (I a0_1), (I a0_2)]), (I a1)] [] =
  (bif decide (a1 < (↑a0_0.length : Int)) then gdK none (if (0 : Int) ≤ a1 ∧ a1 < (↑a0_0.length : Int) then some () else none) fun x => gdK none a0_0[a1.toNat]? fun l => gdK none l.head? fun x => gdK none (T.int? IntKind.i64
 x) fun n => some [T.int IntKind.i64 n] else some [T.int IntKind.i64 (0 : Int)]) := by kernel_rfl
theorem e48 (O : Orc) (ea0_0 : Bool) (a0_0 : List (List T)) (a0_1 : Int) (a0_2 : Int) (a1 : Int) (a2 : Int) : stepO PROG ann O (Key.call 67) [(AV.agg [(AV.t (T.lst 1 ea0_0 a0_0)), (I a0_1), (I a0_2)]), (I a1), (I a2)] [] =
  (bif a0_1 == (3 : Int) then O K48n5 [I a1, I a2, AV.ref (Id.c 0) 0, AV.ref (Id.c 1) 0, AV.ref (Id.c 2) 0, I (0 : Int)] [Blk.box [AV.t (T.lst 1 ea0_0 a0_0), I a0_1, I a0_2], Blk.box [AV.t (T.emp true), I (0 : Int), I (0 :
 Int)], Blk.box [AV.own (Id.c 3), I (1 : Int), I (IntKind.i64.wrap (a2 * a0_2))], Blk.sl false 1 true []] else O K48n5 [I a1, I a2, AV.ref (Id.c 0) 0, AV.ref (Id.c 1) 0, AV.ref (Id.c 2) 0, I (0 : Int)] [Blk.box [AV.t
 (T.lst 1 ea0_0 a0_0), I a0_1, I a0_2], Blk.box [AV.t (T.emp true), I (0 : Int), I (0 : Int)], Blk.box [AV.own (Id.c 3), I a0_1, I (IntKind.i64.wrap (a2 * a0_2))], Blk.sl false 1 true []]) := by kernel_rfl
theorem eq68n3 (O : Orc) (v1 : Int) (ev2 : Bool) (v2 : List (List T)) (v7 : T) (v8 : Int) (ec0_0 : Bool) (c0_0 : List (List T)) (c0_1 : Int) (c0_2 : Int) : stepO PROG ann O Kq68n3 [(I v1), (AV.t (T.lst 2 ev2 v2)), (AV.ref (Id.c 0) 0), (AV.t v7), (I v8)] [(Blk.box [(AV.t (T.lst 1 ec0_0 c0_0)), (I c0_1), (I c0_2)])] =
  (bif decide (v8 < (↑c0_0.length : Int)) then bif !v8 == v1 then gdK none (if (0 : Int) ≤ v8 ∧ v8 < (↑v2.length : Int) then some () else none) fun x => gdK none v2[v8.toNat]? fun l => gdK none l.head? fun x => gdK none
 l.tail.head? fun x_1 => gdK none (T.int? IntKind.i64 x) fun n => gdK none (T.int? IntKind.i64 x_1) fun n_1 => gdK none (O (Key.call 100) [AV.agg [I n, I n_1]] []) fun l => gdK none l.head? fun x => gdK none (if (0 : Int)
 ≤ v8 ∧ v8 < (↑c0_0.length : Int) then some () else none) fun x_2 => gdK none c0_0[v8.toNat]? fun l => gdK none l.head? fun x_3 => gdK none (T.int? IntKind.i64 x_3) fun n => gdK none (O (Key.call 31) [I n, I (1 : Int)] [])
 fun l => gdK none l.head? fun x_4 => gdK none (O (Key.call 36) [AV.ref (Id.c 0) 0, AV.t x, AV.t x_4] [Blk.box [B false, AV.t (T.emp true), B false, AV.t (T.emp true)]]) fun l => gdK none l.head? fun x => gdK none
 (List.drop 1 l).head? fun x => gdK none x.bool? fun b => gdK none (List.drop 1 l).tail.head? fun x => gdK none (T.lst? 1 x) fun p => gdK none (List.drop 1 l).tail.tail.head? fun x => gdK none x.bool? fun b_1 => gdK none
 (List.drop 1 l).tail.tail.tail.head? fun x => gdK none (T.lst? 1 x) fun p_1 => gdK none (O (Key.call 33) [AV.ref (Id.c 0) 0, AV.t v7, AV.t (T.ptr [T.bool b, T.lst 1 p.fst p.snd, T.bool b_1, T.lst 1 p_1.fst p_1.snd])]
 [Blk.box [B false, AV.t (T.emp true), B false, AV.t (T.emp true)]]) fun l => gdK none l.head? fun x => gdK none (List.drop 1 l).head? fun x => gdK none x.bool? fun b => gdK none (List.drop 1 l).tail.head? fun x => gdK
 none (T.lst? 1 x) fun p => gdK none (List.drop 1 l).tail.tail.head? fun x => gdK none x.bool? fun b_2 => gdK none (List.drop 1 l).tail.tail.tail.head? fun x => gdK none (T.lst? 1 x) fun p_2 => O Kq68n3 [I v1, AV.t (T.lst 2
 ev2 v2), AV.ref (Id.c 0) 0, AV.t (T.ptr [T.bool b, T.lst 1 p.fst p.snd, T.bool b_2, T.lst 1 p_2.fst p_2.snd]), AV.t (T.int IntKind.i64 (IntKind.i64.wrap (v8 + (1 : Int))))] [Blk.box [AV.t (T.lst 1 ec0_0 c0_0), I c0_1, I
 c0_2]] else O Kq68n3 [I v1, AV.t (T.lst 2 ev2 v2), AV.ref (Id.c 0) 0, AV.t v7, I (IntKind.i64.wrap (v8 + (1 : Int)))] [Blk.box [AV.t (T.lst 1 ec0_0 c0_0), I c0_1, I c0_2]] else gdK none (if (0 : Int) ≤ v1 ∧ v1 <
 (↑c0_0.length : Int) then some () else none) fun x => gdK none c0_0[v1.toNat]? fun l => gdK none l.head? fun x => gdK none (T.int? IntKind.i64 x) fun n => gdK none (O (Key.call 31) [I n, I (1 : Int)] []) fun l => gdK none
 l.head? fun x => gdK none (O (Key.call 101) [AV.ref (Id.c 0) 0, AV.t v7, AV.t x] [Blk.box [B false, AV.t (T.emp true), B false, AV.t (T.emp true)]]) fun l => gdK none l.head? fun x => gdK none (List.drop 1 l).head? fun x
 => gdK none x.bool? fun b => gdK none (List.drop 1 l).tail.head? fun x => gdK none (T.lst? 1 x) fun p => gdK none (List.drop 1 l).tail.tail.head? fun x => gdK none x.bool? fun b_1 => gdK none (List.drop 1
 l).tail.tail.tail.head? fun x => gdK none (T.lst? 1 x) fun p_1 => some [T.ptr [T.bool b, T.lst 1 p.fst p.snd, T.bool b_1, T.lst 1 p_1.fst p_1.snd]]) := by kernel_rfl
theorem e48n5 (O : Orc) (v1 : Int) (v2 : Int) (v8 : Int) (ec0_0 : Bool) (c0_0 : List (List T)) (c0_1 : Int) (c0_2 : Int) (ec1_0 : Bool) (c1_1 : Int) (c1_2 : Int) (c2_1 : Int) (c2_2 : Int) (ec3 : Bool) (c3 : List (List T)) : stepO PROG ann O K48n5 [(I v1), (I v2), (AV.ref (Id.c 0) 0), (AV.ref (Id.c 1) 0), (AV.ref (Id.c 2) 0), (I v8)] [(Blk.box [(AV.t (T.lst 1 ec0_0 c0_0)), (I c0_1), (I c0_2)]), (Blk.box [(AV.t (T.emp ec1_0)), (I c1_1), (I c1_2)]), (Blk.box [(AV.own (Id.c 3)), (I c2_1), (I c2_2)]), (Blk.sl false 1 ec3 c3)] =
  (bif decide (v8 < v1) then gdK none (O (Key.call 66) [AV.agg [AV.t (T.lst 1 ec0_0 c0_0), I c0_1, I c0_2], I v8] []) fun l => gdK none l.head? fun x => gdK none (T.int? IntKind.i64 x) fun n => gdK none (small 8 (c3.length +
 [[T.int IntKind.i64 (IntKind.i64.wrap (v2 * n))]].length)) fun x => O K48n5 [I v1, I v2, AV.ref (Id.c 0) 0, AV.ref (Id.c 1) 0, AV.ref (Id.c 2) 0, I (IntKind.i64.wrap (v8 + (1 : Int)))] [Blk.box [AV.t (T.lst 1 ec0_0 c0_0),
 I c0_1, I c0_2], Blk.box [AV.t (T.emp ec1_0), I c1_1, I c1_2], Blk.box [AV.own (Id.c 3), I c2_1, I c2_2], Blk.sl false 1 (ec3 && false) (c3 ++ [[T.int IntKind.i64 (IntKind.i64.wrap (v2 * n))]])] else some [T.lst 1 ec3 c3,
 T.int IntKind.i64 c2_1, T.int IntKind.i64 c2_2]) := by kernel_rfl
theorem eq101 (O : Orc) (s : Bool) (y : T) (t : Bool) (u : T) (s2 : Bool) (e2 : Bool) (d2 : List (List T)) (t2 : Bool) (f2 : Bool) (g2 : List (List T)) (s3 : Bool) (eq3 : Bool) (d3 : List (List T)) (t3 : Bool) (f3 : Bool) (g3 : List (List T)) : stepO PROG ann O (Key.call 101) [AV.ref (Id.c 0) 0, AV.t (T.ptr [T.bool s2, T.lst 1 e2 d2, T.bool t2, T.lst 1 f2 g2]), AV.t (T.ptr [T.bool s3, T.lst 1 eq3 d3, T.bool t3, T.lst 1 f3 g3])] [Blk.box [B s, AV.t y, B t, AV.t u]] =
  (gdK none (O (Key.call 121) [AV.ref (Id.c 0) 0, AV.t (T.ptr [T.bool s3, T.lst 1 eq3 d3, T.bool t3, T.lst 1 f3 g3])] [Blk.box [B false, AV.t (T.emp true), B false, AV.t (T.emp true)]]) fun l => gdK none l.head? fun x => gdK
 none (List.drop 1 l).head? fun x => gdK none x.bool? fun b => gdK none (List.drop 1 l).tail.head? fun x => gdK none (T.lst? 1 x) fun p => gdK none (List.drop 1 l).tail.tail.head? fun x => gdK none x.bool? fun b_1 => gdK
 none (List.drop 1 l).tail.tail.tail.head? fun x => gdK none (T.lst? 1 x) fun p_1 => gdK none (O (Key.call 36) [AV.ref (Id.c 0) 0, AV.t (T.ptr [T.bool s2, T.lst 1 e2 d2, T.bool t2, T.lst 1 f2 g2]), AV.t (T.ptr [T.bool b,
 T.lst 1 p.fst p.snd, T.bool b_1, T.lst 1 p_1.fst p_1.snd])] [Blk.box [B s, AV.t y, B t, AV.t u]]) fun l => gdK none l.head? fun x => gdK none (List.drop 1 l).head? fun x => gdK none x.bool? fun b => gdK none (List.drop 1
 l).tail.head? fun x => gdK none (T.lst? 1 x) fun p => gdK none (List.drop 1 l).tail.tail.head? fun x => gdK none x.bool? fun b_2 => gdK none (List.drop 1 l).tail.tail.tail.head? fun x => gdK none (T.lst? 1 x) fun p_2 =>
 some [T.nilp, T.bool b, T.lst 1 p.fst p.snd, T.bool b_2, T.lst 1 p_2.fst p_2.snd]) := by kernel_rfl
theorem eq121 (O : Orc) (s : Bool) (y : T) (t : Bool) (u : T) (s2 : Bool) (e2 : Bool) (d2 : List (List T)) (t2 : Bool) (f2 : Bool) (g2 : List (List T)) : stepO PROG ann O (Key.call 121) [AV.ref (Id.c 0) 0, AV.t (T.ptr [T.bool s2, T.lst 1 e2 d2, T.bool t2, T.lst 1 f2 g2])] [Blk.box [B s, AV.t y, B t, AV.t u]] =
  (gdK none (O (Key.call 74) [AV.t (T.ptr [T.bool s2, T.lst 1 e2 d2, T.bool t2, T.lst 1 f2 g2])] []) fun l => gdK none l.head? fun x => gdK none (O (Key.call 73) [AV.t (T.ptr [T.bool s2, T.lst 1 e2 d2, T.bool t2, T.lst 1 f2
 g2])] []) fun l => gdK none l.head? fun x_1 => gdK none (O (Key.call 69) [AV.ref (Id.c 0) 0, AV.t x, AV.t x_1] [Blk.box [B s, AV.t y, B t, AV.t u]]) fun l => gdK none l.head? fun x => gdK none (List.drop 1 l).head? fun x
 => gdK none x.bool? fun b => gdK none (List.drop 1 l).tail.head? fun x => gdK none (T.lst? 1 x) fun p => gdK none (List.drop 1 l).tail.tail.head? fun x => gdK none x.bool? fun b_1 => gdK none (List.drop 1
 l).tail.tail.tail.head? fun x => gdK none (T.lst? 1 x) fun p_1 => some [T.nilp, T.bool b, T.lst 1 p.fst p.snd, T.bool b_1, T.lst 1 p_1.fst p_1.snd]) := by kernel_rfl
open Go Go.Aev

theorem s12 (e : Bool) (l : List Int) (kd tv : Int) (k : Nat) : Or (.call 66) [AV.agg [lst e l, I kd, I tv], I (k : Int)] [] = some [ti (l.getD k 0)] := by
  refine orc_of ?_
  rw [e12]
  by_cases h : k < l.length
  · have h1 : (k : Int) < (l.length : Int) := by omega
    have h0 : 0 ≤ (k : Int) := by omega
    simp only [STL, ↓reduceIte, Int.reduceBEq, Int.reduceEq, enc_len, h1, h0, and_self, enc_get (getD_get h)]
  · have h1 : ¬ (k : Int) < (l.length : Int) := by omega
    have : l.getD k 0 = 0 := by rw [List.getD_eq_getElem?_getD, List.getElem?_eq_none (by omega)]; rfl
    simp only [STL, ↓reduceIte, Int.reduceBEq, Int.reduceEq, enc_len, h1, this]
theorem sgm {s x b : Int} (hs : s = -1 ∨ s = 1) (hx : -b ≤ x ∧ x ≤ b) : -b ≤ s * x ∧ s * x ≤ b := by rcases hs with rfl | rfl <;> omega
theorem n48 (e : Bool) (of : List Int) (kd tv : Int) (n : Nat) (s kd2 tv2 : Int) (e1 : Bool) (hn : n ≤ 12) (hl : of.length ≤ n) (hb : Bd 1000000 of) (hs : s = -1 ∨ s = 1) : ∀ (rest : List Int) (i : Nat) (done : List Int) (e3 : Bool), (padL n of).drop i = rest → done.length ≤ i →
    ∃ e', Or K48n5 [I (n : Int), I s, r0, AV.ref (Id.c 1) 0, AV.ref (Id.c 2) 0, I (i : Int)] [Blk.box [lst e of, I kd, I tv], Blk.box [AV.t (T.emp e1), I 0, I 0], Blk.box [AV.own (Id.c 3), I kd2, I tv2], Blk.sl false 1 e3 (enc done)] = some [T.lst 1 e' (enc (done ++ rest.map (s * ·))), ti kd2, ti tv2] := by
  intro rest
  have hpl := padL_len hl
  induction rest with
  | nil =>
    intro i done e3 h hd
    have h1 : ¬ (i : Int) < (n : Int) := by have := at_end h; omega
    refine ⟨e3, orc_of ?_⟩
    rw [e48n5]
    simp only [STL, ↓reduceIte, Int.reduceBEq, Int.reduceEq, h1]
    simp
  | cons x rest ih =>
    intro i done e3 h hd
    obtain ⟨g1, g2, g3⟩ := at_drop h
    have h1 : (i : Int) < (n : Int) := by omega
    have hx := padL_bd (n := n) hb x (List.mem_of_getElem? g1)
    have hv : of.getD i 0 = x := by rw [← padL_at n, List.getD_eq_getElem?_getD, g1]; rfl
    have hsx := sgm hs hx
    have hsm : small 8 (done.length + [[ti (s * x)]].length) = some () := small_ok (by simp; omega)
    have happ : enc done ++ [[ti (s * x)]] = enc (done ++ [s * x]) := by simp [enc]
    obtain ⟨e', k⟩ := ih (i + 1) (done ++ [s * x]) (e3 && false) g3 (by simp; omega)
    refine ⟨e', orc_of ?_⟩
    rw [e48n5]
    rw [Bool.and_false, List.append_assoc, List.singleton_append] at k
    simp only [STL, ↓reduceIte, Int.reduceBEq, Int.reduceEq, h1, s12, hv, wr (v := s * x) (by omega), enc_len, hsm, happ, next i (by omega)]
    exact k
theorem s48 (r : R) (n : Nat) (s : Int) (hn : n ≤ 12) (ok : OkR n r) (hs : s = -1 ∨ s = 1) :
    ∃ e', Or (.call 67) [AV.agg [lst r.e r.of, I r.kd, I r.tv], I (n : Int), I s] [] = some [T.lst 1 e' (enc ((padL n r.of).map (s * ·))), ti (if r.kd = 3 then 1 else r.kd), ti (s * r.tv)] := by
  have ht := sgm hs ok.tv
  obtain ⟨e', k⟩ := n48 r.e r.of r.kd r.tv n s (if r.kd = 3 then 1 else r.kd) (s * r.tv) true hn ok.len ok.of hs (padL n r.of) 0 [] true rfl (by simp)
  refine ⟨e', orc_of ?_⟩
  rw [e48]
  by_cases h3 : r.kd = 3
  · rw [if_pos h3] at k ⊢
    simp only [STL, ↓reduceIte, Int.reduceBEq, Int.reduceEq, h3, wr (v := s * r.tv) (by omega)]
    rw [h3] at k
    exact k
  · rw [if_neg h3] at k ⊢
    simp only [STL, ↓reduceIte, Int.reduceBEq, Int.reduceEq, h3, wr (v := s * r.tv) (by omega)]
    exact k
def sdB (w : Int) (n k i : Nat) (r : R) : List Bn :=
  if w * r.of.getD k 0 > 0 then [⟨true, padL n r.of, r.tv, r.kd == 2, (i : Int)⟩] else if w * r.of.getD k 0 < 0 ∧ r.kd = 3 then [⟨true, negL (padL n r.of), -r.tv, false, (i : Int)⟩] else []
def sds (w : Int) (n k : Nat) : List R → Nat → List Bn
  | [], _ => []
  | r :: rs, i => sdB w n k i r ++ sds w n k rs (i + 1)
theorem n21 (rows : List R) (e : Bool) (n k : Nat) (w : Int) (hw : w = -1 ∨ w = 1) (hn : n ≤ 12) (hr : ∀ r ∈ rows, OkR n r) (hl : rows.length ≤ 40) : ∀ (rest : List R) (i : Nat) (up : List R) (bs : List Int) (eu ey : Bool), rows.drop i = rest → up.length ≤ i → bs.length ≤ i →
    ∃ up' by' eu' ey', Or K21n4 [LR e rows, I (n : Int), I (k : Int), I w, o0, o1, I (i : Int)] [SR eu up, Blk.sl false 1 ey (enc bs)] = some [T.lst 3 eu' (eRs up'), T.lst 1 ey' (enc by')] ∧
      up'.map toC = up.map toC ++ (sds w n k rest i).map Bn.c ∧ by' = bs ++ (sds w n k rest i).map Bn.frm := by
  intro rest
  induction rest with
  | nil =>
    intro i up bs eu ey h h1 h2
    refine ⟨up, bs, eu, ey, orc_of ?_, by simp [sds], by simp [sds]⟩
    rw [e21n4]
    have h1 : ¬ (i : Int) < (rows.length : Int) := by have := at_end h; omega
    simp only [STL, ↓reduceIte, Int.reduceBEq, Int.reduceEq, h1, eRs_len]
  | cons r rest ih =>
    intro i up bs eu ey h hu hy
    obtain ⟨g1, g2, g3⟩ := at_drop h
    have h1 : (i : Int) < (rows.length : Int) := by omega
    have h0 : 0 ≤ (i : Int) := by omega
    have ok := hr r (List.mem_of_getElem? g1)
    have hx := at_bd (k := k) ok.of (by omega)
    have hwx := sgm hw hx
    have hsa : ∀ q : R, small 40 (up.length + [eR q].length) = some () := fun q => small_ok (by simp; omega)
    have hsb : small 8 (bs.length + [[ti (i : Int)]].length) = some () := small_ok (by simp; omega)
    have hb : enc bs ++ [[ti (i : Int)]] = enc (bs ++ [(i : Int)]) := by simp [enc]
    by_cases hp : w * r.of.getD k 0 > 0
    · obtain ⟨e', k1⟩ := s48 r n 1 hn ok (by omega)
      have hm : (padL n r.of).map ((1 : Int) * ·) = padL n r.of := by
        have : ((1 : Int) * ·) = (fun x : Int => x) := by funext x; exact Int.one_mul x
        rw [this, List.map_id']
      rw [hm, Int.one_mul] at k1
      have hnl : ¬ w * r.of.getD k 0 < 0 := by omega
      have hq : eRs up ++ [[T.lst 1 e' (enc (padL n r.of)), ti (if r.kd = 3 then 1 else r.kd), ti r.tv]] = eRs (up ++ [⟨e', padL n r.of, if r.kd = 3 then 1 else r.kd, r.tv⟩]) := by simp [eRs, eR]
      have hs1 := hsa ⟨e', padL n r.of, if r.kd = 3 then 1 else r.kd, r.tv⟩
      unfold eR at hs1
      obtain ⟨up', by', eu', ey', m1, m2, m3⟩ := ih (i + 1) (up ++ [⟨e', padL n r.of, if r.kd = 3 then 1 else r.kd, r.tv⟩]) (bs ++ [(i : Int)]) (eu && false) (ey && false) g3 (by simp; omega) (by simp; omega)
      rw [Bool.and_false, Bool.and_false] at m1
      refine ⟨up', by', eu', ey', orc_of ?_, ?_, ?_⟩
      · rw [e21n4]
        have h1k : ((padL n r.of).map ((1 : Int) * ·)) = padL n r.of := hm
        simp only [STL, ↓reduceIte, Int.reduceBEq, Int.reduceEq, gdF, h1, h0, and_self, eRs_len, eRs_get g1, s12, wr (v := w * r.of.getD k 0) (by omega), hp, hnl, decide_false, decide_true, k1, hs1, enc_len, hsb, hq, hb, next i (by omega)]
        exact m1
      · rw [m2, sds]
        simp only [sdB, if_pos hp]
        simp only [List.map_append, List.map_cons, List.map_nil, List.append_assoc, List.singleton_append, Bn.c, toC]
        congr 3
        rcases ok.kd with h | h | h <;> simp [h]
      · rw [m3, sds]
        simp only [sdB, if_pos hp]
        simp
    · by_cases hz : w * r.of.getD k 0 < 0 ∧ r.kd = 3
      · obtain ⟨e', k1⟩ := s48 r n (-1) hn ok (by omega)
        have hm : (padL n r.of).map ((-1 : Int) * ·) = negL (padL n r.of) := by
          unfold negL; congr 1; funext x; omega
        have hm2 : -1 * r.tv = -r.tv := by omega
        rw [hm, hm2, if_pos hz.2] at k1
        have hq : eRs up ++ [[T.lst 1 e' (enc (negL (padL n r.of))), ti 1, ti (-r.tv)]] = eRs (up ++ [⟨e', negL (padL n r.of), 1, -r.tv⟩]) := by simp [eRs, eR]
        have hs1 := hsa ⟨e', negL (padL n r.of), 1, -r.tv⟩
        unfold eR at hs1
        obtain ⟨up', by', eu', ey', m1, m2, m3⟩ := ih (i + 1) (up ++ [⟨e', negL (padL n r.of), 1, -r.tv⟩]) (bs ++ [(i : Int)]) (eu && false) (ey && false) g3 (by simp; omega) (by simp; omega)
        rw [Bool.and_false, Bool.and_false] at m1
        have h3' := hz.2
        rw [h3'] at k1
        refine ⟨up', by', eu', ey', orc_of ?_, ?_, ?_⟩
        · rw [e21n4]
          simp only [STL, ↓reduceIte, Int.reduceBEq, Int.reduceEq, h1, h0, and_self, eRs_len, eRs_get g1, s12, wr (v := w * r.of.getD k 0) (by omega), hp, hz.1, h3', decide_false, decide_true, k1, hs1, enc_len, hsb, hq, hb, next i (by omega)]
          exact m1
        · rw [m2, sds]
          simp only [sdB, if_neg hp, if_pos hz]
          simp [Bn.c]
        · rw [m3, sds]
          simp only [sdB, if_neg hp, if_pos hz]
          simp
      · obtain ⟨up', by', eu', ey', m1, m2, m3⟩ := ih (i + 1) up bs eu ey g3 (by omega) (by omega)
        refine ⟨up', by', eu', ey', orc_of ?_, ?_, ?_⟩
        · rw [e21n4]
          by_cases hlt : w * r.of.getD k 0 < 0
          · have h3 : ¬ r.kd = 3 := fun h => hz ⟨hlt, h⟩
            simp only [STL, ↓reduceIte, Int.reduceBEq, Int.reduceEq, h1, h0, and_self, eRs_len, eRs_get g1, s12, wr (v := w * r.of.getD k 0) (by omega), hp, hlt, h3, decide_false, decide_true, next i (by omega)]
            exact m1
          · simp only [STL, ↓reduceIte, Int.reduceBEq, Int.reduceEq, gdF, h1, h0, and_self, eRs_len, eRs_get g1, s12, wr (v := w * r.of.getD k 0) (by omega), hp, hlt, decide_false, next i (by omega)]
            exact m1
        · rw [m2, sds]
          simp only [sdB, if_neg hp, if_neg hz]
          simp
        · rw [m3, sds]
          simp only [sdB, if_neg hp, if_neg hz]
          simp
theorem s21 (rows : List R) (e : Bool) (n k : Nat) (w : Int) (hw : w = -1 ∨ w = 1) (hn : n ≤ 12) (hr : ∀ r ∈ rows, OkR n r) (hl : rows.length ≤ 40) :
    ∃ up eu ey, Or (.call 29) [LR e rows, I (n : Int), I (k : Int), I w] [] = some [T.lst 3 eu (eRs up), T.lst 1 ey (enc ((sds w n k rows 0).map Bn.frm))] ∧ up.map toC = (sds w n k rows 0).map Bn.c := by
  obtain ⟨up, bs, eu, ey, k1, k2, k3⟩ := n21 rows e n k w hw hn hr hl rows 0 [] [] true true rfl (by simp) (by simp)
  simp only [List.nil_append, List.map_nil] at k2 k3
  subst k3
  refine ⟨up, eu, ey, orc_of ?_, k2⟩
  rw [e21]
  exact k1
end Go.Aev.Gen
