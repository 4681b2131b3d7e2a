import Derived.Test.YtobpninhnmmpeaaGreatAwayUpQ5
import Derived.Test.YtobpninhnmmpeaaGreatAwayUpQ8
import Derived.Test.YtobpninhnmmpeaaGreatAwayUpQ9
set_option linter.unusedSimpArgs false
set_option linter.unusedVariables false
namespace Go.Aev.Wd.Lg
open Go Go.Aev Go.Aev.Gen
noncomputable abbrev K6n7 : Key := nodeKey PROG 6 true 7 [(0, none), (1, none), (2, none), (3, none), (8, none), (9, none), (38, none), (39, none), (40, none)] (0, 0)
noncomputable abbrev K18n4 : Key := nodeKey PROG 18 true 4 [(1, none), (2, none), (3, none), (8, none), (10, none), (11, none), (16, none), (17, none), (18, none)] (0, 0)
noncomputable abbrev K43n1 : Key := nodeKey PROG 43 true 1 [(0, none), (1, none)] (0, 0)
noncomputable abbrev K56n6 : Key := nodeKey PROG 56 true 6 [(1, none), (5, none), (13, none), (14, none), (15, none)] (0, 0)
noncomputable abbrev K48n3 : Key := nodeKey PROG 48 true 3 [(1, none), (2, none), (3, none), (6, none), (7, none), (14, none), (15, none), (16, none)] (0, 0)
noncomputable abbrev K97n3 : Key := nodeKey PROG 97 true 3 [(1, none), (3, none), (12, none), (13, none)] (0, 0)
noncomputable abbrev K90n4 : Key := nodeKey PROG 90 true 4 [(0, none), (1, none), (4, none), (5, none), (14, none), (15, none), (16, none)] (0, 0)
noncomputable abbrev K92n2 : Key := nodeKey PROG 92 true 2 [(4, none), (5, none), (6, none)] (0, 0)
noncomputable abbrev K96n6 : Key := nodeKey PROG 96 true 6 [(0, none), (1, none), (5, none)] (0, 0)
noncomputable abbrev K112n1 : Key := nodeKey PROG 112 true 1 [(0, none)] (0, 0)
noncomputable abbrev K118n3 : Key := nodeKey PROG 118 true 3 [(1, none), (5, none), (17, none), (18, none), (19, none)] (0, 0)
noncomputable abbrev K118n7 : Key := nodeKey PROG 118 true 7 [(1, none), (5, none), (6, none), (7, none), (8, none), (17, none), (18, none), (19, none), (24, none), (25, none), (26, none)] (0, 0)
noncomputable abbrev K127n6 : Key := nodeKey PROG 127 true 6 [(1, none), (5, none), (6, none), (20, none), (21, none), (22, none)] (0, 0)
noncomputable abbrev K128n4 : Key := nodeKey PROG 128 true 4 [(1, none), (5, none), (6, none), (13, none), (14, none), (15, none)] (0, 0)
noncomputable abbrev K113n10 : Key := nodeKey PROG 113 true 10 [(0, none), (8, none), (9, none), (10, some 1)] (0, 0)
noncomputable abbrev K113n15 : Key := nodeKey PROG 113 true 15 [(8, none), (9, none), (10, some 1), (11, none), (12, none), (13, none)] (0, 0)
noncomputable abbrev K113n19 : Key := nodeKey PROG 113 true 19 [(8, none), (9, none), (10, some 1), (11, none), (12, none), (13, none), (15, none), (16, none)] (0, 0)
noncomputable abbrev K113n27 : Key := nodeKey PROG 113 true 27 [(8, none), (9, none), (10, some 1), (11, none), (12, none), (13, none), (15, none), (17, none), (167, none), (168, none), (169, none)] (0, 0)
noncomputable abbrev K125n3m1 : Key := nodeKey PROG 125 true 3 [(0, none), (1, none), (2, none), (7, none), (8, none), (12, none), (13, none)] (1, 0)
noncomputable abbrev K122n4 : Key := nodeKey PROG 122 true 4 [(0, none), (1, none), (6, none), (7, none), (8, none)] (0, 0)
noncomputable abbrev K124n4 : Key := nodeKey PROG 124 true 4 [(1, none), (5, none), (6, none), (18, none), (19, none), (20, none)] (0, 0)
noncomputable abbrev K126n4 : Key := nodeKey PROG 126 true 4 [(0, none), (1, none), (6, none), (7, none), (20, none), (21, none), (22, none)] (0, 0)
noncomputable abbrev K126n15 : Key := nodeKey PROG 126 true 15 [(0, none), (1, none), (6, none), (10, none), (58, none), (59, none), (60, none)] (0, 0)
theorem e6 (O : Orc) (er : Bool) (r : List (List T)) (n k : Int) (ep : Bool) (p : List (List T)) : stepO PROG ann O (Key.call 6) [AV.t (T.lst 3 er r), I n, I k, AV.t (T.lst 2 ep p)] [] =
  (gdK none (O (Key.call 15) [AV.t (T.lst 3 er r), I n, I k] []) fun l => gdK none l.head? fun x => gdK none (T.int? IntKind.i64 x) fun n_1 => gdK none l.tail.head? fun x => gdK none (T.int? IntKind.i64 x) fun n_2 => bif
 !n_1 == (0 : Int) then some [T.int IntKind.i64 (0 : Int), T.int IntKind.i64 (0 : Int), T.int IntKind.i64 n_1, T.int IntKind.i64 n_2] else bif !(↑p.length : Int) == n then some [T.int IntKind.i64 (0 : Int), T.int
 IntKind.i64 (0 : Int), T.int IntKind.i64 (9 : Int), T.int IntKind.i64 (0 : Int)] else O K6n7 [AV.t (T.lst 3 er r), I n, I k, AV.t (T.lst 2 ep p), AV.ref (Id.c 0) 0, AV.ref (Id.c 1) 0, AV.t (T.lst 2 ep p), I (↑p.length :
 Int), I (0 : Int)] [Blk.box [I (0 : Int), I (0 : Int)], Blk.box [I (0 : Int), I (0 : Int)]]) := by kernel_rfl
theorem e6n7 (O : Orc) (ev0 : Bool) (v0 : List (List T)) (v1 : Int) (v2 : Int) (ev3 : Bool) (v3 : List (List T)) (ev38 : Bool) (v38 : List (List T)) (v39 : Int) (v40 : Int) (c0_0 : Int) (c0_1 : Int) (c1_0 : Int) (c1_1 : Int) : stepO PROG ann O K6n7 [(AV.t (T.lst 3 ev0 v0)), (I v1), (I v2), (AV.t (T.lst 2 ev3 v3)), (AV.ref (Id.c 0) 0), (AV.ref (Id.c 1) 0), (AV.t (T.lst 2 ev38 v38)), (I v39), (I v40)] [(Blk.box [(I c0_0), (I c0_1)]), (Blk.box [(I c1_0), (I c1_1)])] =
  (bif decide (v40 < v39) then gdK none (if (0 : Int) ≤ v40 ∧ v40 < (↑v38.length : Int) then some () else none) fun x => gdK none v38[v40.toNat]? fun l => gdK none l.head? fun x => gdK none l.tail.head? fun x_1 => gdK none
 (T.int? IntKind.i64 x) fun n => gdK none (T.int? IntKind.i64 x_1) fun n_1 => gdK none (askO (some !v40 == v2) (O (Key.call 16) [AV.agg [I n, I n_1]] [])) fun l => gdK (some !v40 == v2) l.head? fun x => gdK (some !v40 ==
 v2) (T.int? IntKind.i64 x) fun n => gdK (some !v40 == v2) l.tail.head? fun x => gdK (some !v40 == v2) (T.int? IntKind.i64 x) fun n_2 => bif bif !v40 == v2 then !n == (0 : Int) else false then some [T.int IntKind.i64 (0 :
 Int), T.int IntKind.i64 (0 : Int), T.int IntKind.i64 (5 : Int), T.int IntKind.i64 v40] else O K6n7 [AV.t (T.lst 3 ev0 v0), I v1, I v2, AV.t (T.lst 2 ev3 v3), AV.ref (Id.c 0) 0, AV.ref (Id.c 1) 0, AV.t (T.lst 2 ev38 v38),
 I v39, I (IntKind.i64.wrap (v40 + (1 : Int)))] [Blk.box [I c0_0, I c0_1], Blk.box [I c1_0, I c1_1]] else gdK none (O (Key.call 17) [AV.t (T.lst 3 ev0 v0), I v1, I v2] []) fun l => gdK none l.head? fun x => gdK none
 (T.lst? 4 x) fun p => gdK none l.tail.head? fun x => gdK none (T.lst? 4 x) fun p_1 => gdK none (O (Key.call 18) [AV.t (T.lst 4 p.fst p.snd), I v2, AV.t (T.lst 2 ev3 v3), I (1 : Int)] []) fun l => gdK none l.head? fun x =>
 gdK none x.bool? fun b => gdK none l.tail.head? fun x => gdK none x.str? fun s => gdK none l.tail.tail.head? fun x => gdK none x.bool? fun b_1 => gdK none l.tail.tail.tail.head? fun x => gdK none x.str? fun s_1 => gdK
 none (List.drop 4 l).head? fun x => gdK none x.bool? fun b_2 => gdK none (O (Key.call 18) [AV.t (T.lst 4 p_1.fst p_1.snd), I v2, AV.t (T.lst 2 ev3 v3), I (-1 : Int)] []) fun l => gdK none l.head? fun x => gdK none x.bool?
 fun b_3 => gdK none l.tail.head? fun x => gdK none x.str? fun s_2 => gdK none l.tail.tail.head? fun x => gdK none x.bool? fun b_4 => gdK none l.tail.tail.tail.head? fun x => gdK none x.str? fun s_3 => gdK none (List.drop
 4 l).head? fun x => gdK none x.bool? fun b_5 => bif bif (↑p.snd.length : Int) == (0 : Int) then (↑p_1.snd.length : Int) == (0 : Int) else false then gdK none (O (Key.call 24) [AV.agg [B false, AV.t (T.str (ByteArray.mk
 #[])), B false, AV.t (T.str (ByteArray.mk #[]))]] []) fun l => gdK none l.head? fun x => gdK none (T.int? IntKind.i64 x) fun n => gdK none l.tail.head? fun x => gdK none (T.int? IntKind.i64 x) fun n_1 => gdK none
 (List.drop 2 l).head? fun x => gdK none x.bool? fun b => bif !b then some [T.int IntKind.i64 (0 : Int), T.int IntKind.i64 (0 : Int), T.int IntKind.i64 (10 : Int), T.int IntKind.i64 (0 : Int)] else some [T.int IntKind.i64
 n, T.int IntKind.i64 n_1, T.int IntKind.i64 (0 : Int), T.int IntKind.i64 (0 : Int)] else bif (↑p_1.snd.length : Int) == (0 : Int) then gdK none (O (Key.call 20) [I (1 : Int)] []) fun l => gdK none l.head? fun x => gdK
 none x.bool? fun b_6 => gdK none l.tail.head? fun x => gdK none x.str? fun s_4 => gdK none l.tail.tail.head? fun x => gdK none x.bool? fun b_7 => gdK none l.tail.tail.tail.head? fun x => gdK none x.str? fun s_5 => gdK
 none (O (Key.call 19) [AV.agg [B b, AV.t (T.str s), B b_1, AV.t (T.str s_1)], AV.agg [B b_6, AV.t (T.str s_4), B b_7, AV.t (T.str s_5)]] []) fun l => gdK none l.head? fun x => gdK none x.bool? fun b => gdK none
 l.tail.head? fun x => gdK none x.str? fun s => gdK none l.tail.tail.head? fun x => gdK none x.bool? fun b_8 => gdK none l.tail.tail.tail.head? fun x => gdK none x.str? fun s_6 => gdK none (O (Key.call 24) [AV.agg [AV.t
 (T.bool b), AV.t (T.str s), AV.t (T.bool b_8), AV.t (T.str s_6)]] []) fun l => gdK none l.head? fun x => gdK none (T.int? IntKind.i64 x) fun n => gdK none l.tail.head? fun x => gdK none (T.int? IntKind.i64 x) fun n_1 =>
 gdK none (List.drop (2 : Nat) l).head? fun x => gdK none x.bool? fun b => bif !b then some [T.int IntKind.i64 (0 : Int), T.int IntKind.i64 (0 : Int), T.int IntKind.i64 (10 : Int), T.int IntKind.i64 (0 : Int)] else some
 [T.int IntKind.i64 n, T.int IntKind.i64 n_1, T.int IntKind.i64 (0 : Int), T.int IntKind.i64 (0 : Int)] else bif (↑p.snd.length : Int) == (0 : Int) then gdK none (O (Key.call 20) [I (1 : Int)] []) fun l => gdK none l.head?
 fun x => gdK none x.bool? fun b => gdK none l.tail.head? fun x => gdK none x.str? fun s => gdK none l.tail.tail.head? fun x => gdK none x.bool? fun b_6 => gdK none l.tail.tail.tail.head? fun x => gdK none x.str? fun s_4
 => gdK none (O (Key.call 21) [AV.agg [B b_3, AV.t (T.str s_2), B b_4, AV.t (T.str s_3)], AV.agg [B b, AV.t (T.str s), B b_6, AV.t (T.str s_4)]] []) fun l => gdK none l.head? fun x => gdK none x.bool? fun b => gdK none
 l.tail.head? fun x => gdK none x.str? fun s => gdK none l.tail.tail.head? fun x => gdK none x.bool? fun b_7 => gdK none l.tail.tail.tail.head? fun x => gdK none x.str? fun s_5 => gdK none (O (Key.call 24) [AV.agg [AV.t
 (T.bool b), AV.t (T.str s), AV.t (T.bool b_7), AV.t (T.str s_5)]] []) fun l => gdK none l.head? fun x => gdK none (T.int? IntKind.i64 x) fun n => gdK none l.tail.head? fun x => gdK none (T.int? IntKind.i64 x) fun n_1 =>
 gdK none (List.drop (2 : Nat) l).head? fun x => gdK none x.bool? fun b => bif !b then some [T.int IntKind.i64 (0 : Int), T.int IntKind.i64 (0 : Int), T.int IntKind.i64 (10 : Int), T.int IntKind.i64 (0 : Int)] else some
 [T.int IntKind.i64 n, T.int IntKind.i64 n_1, T.int IntKind.i64 (0 : Int), T.int IntKind.i64 (0 : Int)] else gdK none (O (Key.call 22) [AV.agg [B b_3, AV.t (T.str s_2), B b_4, AV.t (T.str s_3)], AV.agg [B b, AV.t (T.str
 s), B b_1, AV.t (T.str s_1)]] []) fun l => gdK none l.head? fun x => gdK none (T.int? IntKind.i64 x) fun n => bif bif decide (n > (0 : Int)) then true else bif n == (0 : Int) then bif b_2 then true else b_5 else false
 then some [T.int IntKind.i64 (0 : Int), T.int IntKind.i64 (0 : Int), T.int IntKind.i64 (6 : Int), T.int IntKind.i64 (0 : Int)] else gdK none (O (Key.call 21) [AV.agg [B b_3, AV.t (T.str s_2), B b_4, AV.t (T.str s_3)],
 AV.agg [B b, AV.t (T.str s), B b_1, AV.t (T.str s_1)]] []) fun l => gdK none l.head? fun x => gdK none x.bool? fun b => gdK none l.tail.head? fun x => gdK none x.str? fun s => gdK none l.tail.tail.head? fun x => gdK none
 x.bool? fun b_6 => gdK none l.tail.tail.tail.head? fun x => gdK none x.str? fun s_4 => gdK none (O (Key.call 20) [AV.t (T.int IntKind.i64 (2 : Int))] []) fun l => gdK none l.head? fun x => gdK none x.bool? fun b_7 => gdK
 none l.tail.head? fun x => gdK none x.str? fun s_5 => gdK none l.tail.tail.head? fun x => gdK none x.bool? fun b_8 => gdK none l.tail.tail.tail.head? fun x => gdK none x.str? fun s_6 => gdK none (O (Key.call (23 : Nat))
 [AV.agg [AV.t (T.bool b), AV.t (T.str s), AV.t (T.bool b_6), AV.t (T.str s_4)], AV.agg [AV.t (T.bool b_7), AV.t (T.str s_5), AV.t (T.bool b_8), AV.t (T.str s_6)]] []) fun l => gdK none l.head? fun x => gdK none x.bool?
 fun b => gdK none l.tail.head? fun x => gdK none x.str? fun s => gdK none l.tail.tail.head? fun x => gdK none x.bool? fun b_9 => gdK none l.tail.tail.tail.head? fun x => gdK none x.str? fun s_7 => gdK none (O (Key.call
 (24 : Nat)) [AV.agg [AV.t (T.bool b), AV.t (T.str s), AV.t (T.bool b_9), AV.t (T.str s_7)]] []) fun l => gdK none l.head? fun x => gdK none (T.int? IntKind.i64 x) fun n => gdK none l.tail.head? fun x => gdK none (T.int?
 IntKind.i64 x) fun n_1 => gdK none (List.drop (2 : Nat) l).head? fun x => gdK none x.bool? fun b => bif !b then some [T.int IntKind.i64 (0 : Int), T.int IntKind.i64 (0 : Int), T.int IntKind.i64 (10 : Int), T.int
 IntKind.i64 (0 : Int)] else some [T.int IntKind.i64 n, T.int IntKind.i64 n_1, T.int IntKind.i64 (0 : Int), T.int IntKind.i64 (0 : Int)]) := by kernel_rfl
theorem e16 (O : Orc) (a0_0 : Int) (a0_1 : Int) : stepO PROG ann O (Key.call 16) [(AV.agg [(I a0_0), (I a0_1)])] [] =
  (gdK none (askO (some !bif bif bif decide (a0_1 < (1 : Int)) then true else decide (a0_1 > (1073741824 : Int)) then true else decide (a0_0 < (-1073741824 : Int)) then true else decide (a0_0 > (1073741824 : Int))) (O
 (Key.call 44) [I a0_0] [])) fun l => gdK (some !bif bif bif decide (a0_1 < (1 : Int)) then true else decide (a0_1 > (1073741824 : Int)) then true else decide (a0_0 < (-1073741824 : Int)) then true else decide (a0_0 >
 (1073741824 : Int))) l.head? fun x => gdK (some !bif bif bif decide (a0_1 < (1 : Int)) then true else decide (a0_1 > (1073741824 : Int)) then true else decide (a0_0 < (-1073741824 : Int)) then true else decide (a0_0 >
 (1073741824 : Int))) (T.int? IntKind.u64 x) fun n => gdK none (askO (some !bif bif bif decide (a0_1 < (1 : Int)) then true else decide (a0_1 > (1073741824 : Int)) then true else decide (a0_0 < (-1073741824 : Int)) then
 true else decide (a0_0 > (1073741824 : Int))) (O (Key.call 44) [I a0_1] [])) fun l => gdK (some !bif bif bif decide (a0_1 < (1 : Int)) then true else decide (a0_1 > (1073741824 : Int)) then true else decide (a0_0 <
 (-1073741824 : Int)) then true else decide (a0_0 > (1073741824 : Int))) l.head? fun x => gdK (some !bif bif bif decide (a0_1 < (1 : Int)) then true else decide (a0_1 > (1073741824 : Int)) then true else decide (a0_0 <
 (-1073741824 : Int)) then true else decide (a0_0 > (1073741824 : Int))) (T.int? IntKind.u64 x) fun n_1 => gdK none (askO (some !bif bif bif decide (a0_1 < (1 : Int)) then true else decide (a0_1 > (1073741824 : Int)) then
 true else decide (a0_0 < (-1073741824 : Int)) then true else decide (a0_0 > (1073741824 : Int))) (O (Key.call 43) [AV.t (T.int IntKind.u64 n), AV.t (T.int IntKind.u64 n_1)] [])) fun l => gdK (some !bif bif bif decide
 (a0_1 < (1 : Int)) then true else decide (a0_1 > (1073741824 : Int)) then true else decide (a0_0 < (-1073741824 : Int)) then true else decide (a0_0 > (1073741824 : Int))) l.head? fun x => gdK (some !bif bif bif decide
 (a0_1 < (1 : Int)) then true else decide (a0_1 > (1073741824 : Int)) then true else decide (a0_0 < (-1073741824 : Int)) then true else decide (a0_0 > (1073741824 : Int))) (T.int? IntKind.u64 x) fun n => bif bif bif bif
 bif decide (a0_1 < (1 : Int)) then true else decide (a0_1 > (1073741824 : Int)) then true else decide (a0_0 < (-1073741824 : Int)) then true else decide (a0_0 > (1073741824 : Int)) then true else !n == (1 : Int) then some
 [T.int IntKind.i64 (3 : Int), T.int IntKind.i64 (0 : Int)] else some [T.int IntKind.i64 (0 : Int), T.int IntKind.i64 (0 : Int)]) := by kernel_rfl
theorem e18 (O : Orc) (ea0 : Bool) (a0 : List (List T)) (a1 : Int) (ea2 : Bool) (a2 : List (List T)) (a3 : Int) : stepO PROG ann O (Key.call 18) [(AV.t (T.lst 4 ea0 a0)), (I a1), (AV.t (T.lst 2 ea2 a2)), (I a3)] [] =
  (O K18n4 [I a1, AV.t (T.lst 2 ea2 a2), I a3, AV.ref (Id.c 0) 0, AV.ref (Id.c 1) 0, B false, AV.t (T.lst 4 ea0 a0), I (↑a0.length : Int), I (0 : Int)] [Blk.box [B false, AV.t (T.str (ByteArray.mk #[])), B false, AV.t (T.str
 (ByteArray.mk #[]))], Blk.box [B false, AV.t (T.str (ByteArray.mk #[])), B false, AV.t (T.str (ByteArray.mk #[]))]]) := by kernel_rfl
theorem e24 (O : Orc) (a0_0 : Bool) (a0_1 : ByteArray) (a0_2 : Bool) (a0_3 : ByteArray) : stepO PROG ann O (Key.call 24) [(AV.agg [(B a0_0), (AV.t (T.str a0_1)), (B a0_2), (AV.t (T.str a0_3))])] [] =
  (gdK none (O (Key.call 56) [AV.agg [B a0_0, AV.t (T.str a0_1)]] []) fun l => gdK none l.head? fun x => gdK none (T.int? IntKind.i64 x) fun n => gdK none l.tail.head? fun x => gdK none x.bool? fun b => gdK none (O (Key.call
 54) [AV.agg [B a0_0, AV.t (T.str a0_1), B a0_2, AV.t (T.str a0_3)]] []) fun l => gdK none l.head? fun x => gdK none x.bool? fun b_1 => gdK none l.tail.head? fun x => gdK none x.str? fun s => gdK none (O (Key.call 56)
 [AV.agg [B b_1, AV.t (T.str s)]] []) fun l => gdK none l.head? fun x => gdK none (T.int? IntKind.i64 x) fun n_1 => gdK none l.tail.head? fun x => gdK none x.bool? fun b_2 => gdK none (askO (some !bif !b then true else
 !b_2) (O (Key.call 16) [AV.agg [I n, I n_1]] [])) fun l => gdK (some !bif !b then true else !b_2) l.head? fun x => gdK (some !bif !b then true else !b_2) (T.int? IntKind.i64 x) fun n_2 => gdK (some !bif !b then true else
 !b_2) l.tail.head? fun x => gdK (some !bif !b then true else !b_2) (T.int? IntKind.i64 x) fun n_3 => bif bif bif !b then true else !b_2 then true else !n_2 == (0 : Int) then some [T.int IntKind.i64 (0 : Int), T.int
 IntKind.i64 (0 : Int), T.bool false] else some [T.int IntKind.i64 n, T.int IntKind.i64 n_1, T.bool true]) := by kernel_rfl
theorem e20 (O : Orc) (a0 : Int) : stepO PROG ann O (Key.call 20) [(I a0)] [] =
  (gdK none (O (Key.call 50) [I a0] []) fun l => gdK none l.head? fun x => gdK none x.bool? fun b => gdK none l.tail.head? fun x => gdK none x.str? fun s => gdK none (O (Key.call 50) [I (1 : Int)] []) fun l => gdK none
 l.head? fun x => gdK none x.bool? fun b_1 => gdK none l.tail.head? fun x => gdK none x.str? fun s_1 => some [T.bool b, T.str s, T.bool b_1, T.str s_1]) := by kernel_rfl
theorem e19 (O : Orc) (a0_0 : Bool) (a0_1 : ByteArray) (a0_2 : Bool) (a0_3 : ByteArray) (a1_0 : Bool) (a1_1 : ByteArray) (a1_2 : Bool) (a1_3 : ByteArray) : stepO PROG ann O (Key.call 19) [(AV.agg [(B a0_0), (AV.t (T.str a0_1)), (B a0_2), (AV.t (T.str a0_3))]), (AV.agg [(B a1_0), (AV.t (T.str a1_1)), (B a1_2), (AV.t (T.str a1_3))])] [] =
  (gdK none (O (Key.call 49) [AV.agg [B a1_0, AV.t (T.str a1_1), B a1_2, AV.t (T.str a1_3)]] []) fun l => gdK none l.head? fun x => gdK none x.bool? fun b => gdK none l.tail.head? fun x => gdK none x.str? fun s => gdK none
 l.tail.tail.head? fun x => gdK none x.bool? fun b_1 => gdK none l.tail.tail.tail.head? fun x => gdK none x.str? fun s_1 => gdK none (O (Key.call 21) [AV.agg [B a0_0, AV.t (T.str a0_1), B a0_2, AV.t (T.str a0_3)], AV.agg
 [B b, AV.t (T.str s), B b_1, AV.t (T.str s_1)]] []) fun l => gdK none l.head? fun x => gdK none x.bool? fun b => gdK none l.tail.head? fun x => gdK none x.str? fun s => gdK none l.tail.tail.head? fun x => gdK none x.bool?
 fun b_2 => gdK none l.tail.tail.tail.head? fun x => gdK none x.str? fun s_2 => some [T.bool b, T.str s, T.bool b_2, T.str s_2]) := by kernel_rfl
theorem e21 (O : Orc) (a0_0 : Bool) (a0_1 : ByteArray) (a0_2 : Bool) (a0_3 : ByteArray) (a1_0 : Bool) (a1_1 : ByteArray) (a1_2 : Bool) (a1_3 : ByteArray) : stepO PROG ann O (Key.call 21) [(AV.agg [(B a0_0), (AV.t (T.str a0_1)), (B a0_2), (AV.t (T.str a0_3))]), (AV.agg [(B a1_0), (AV.t (T.str a1_1)), (B a1_2), (AV.t (T.str a1_3))])] [] =
  (gdK none (O (Key.call 54) [AV.agg [B a1_0, AV.t (T.str a1_1), B a1_2, AV.t (T.str a1_3)]] []) fun l => gdK none l.head? fun x => gdK none x.bool? fun b => gdK none l.tail.head? fun x => gdK none x.str? fun s => gdK none
 (O (Key.call 53) [AV.agg [B a0_0, AV.t (T.str a0_1)], AV.agg [B b, AV.t (T.str s)]] []) fun l => gdK none l.head? fun x => gdK none x.bool? fun b => gdK none l.tail.head? fun x => gdK none x.str? fun s => gdK none (O
 (Key.call 54) [AV.agg [B a0_0, AV.t (T.str a0_1), B a0_2, AV.t (T.str a0_3)]] []) fun l => gdK none l.head? fun x => gdK none x.bool? fun b_1 => gdK none l.tail.head? fun x => gdK none x.str? fun s_1 => gdK none (O
 (Key.call 53) [AV.agg [B a1_0, AV.t (T.str a1_1)], AV.agg [B b_1, AV.t (T.str s_1)]] []) fun l => gdK none l.head? fun x => gdK none x.bool? fun b_2 => gdK none l.tail.head? fun x => gdK none x.str? fun s_2 => gdK none (O
 (Key.call 52) [AV.agg [B b, AV.t (T.str s)], AV.agg [B b_2, AV.t (T.str s_2)]] []) fun l => gdK none l.head? fun x => gdK none x.bool? fun b => gdK none l.tail.head? fun x => gdK none x.str? fun s => gdK none (O (Key.call
 54) [AV.agg [B a0_0, AV.t (T.str a0_1), B a0_2, AV.t (T.str a0_3)]] []) fun l => gdK none l.head? fun x => gdK none x.bool? fun b_3 => gdK none l.tail.head? fun x => gdK none x.str? fun s_3 => gdK none (O (Key.call 54)
 [AV.agg [B a1_0, AV.t (T.str a1_1), B a1_2, AV.t (T.str a1_3)]] []) fun l => gdK none l.head? fun x => gdK none x.bool? fun b_4 => gdK none l.tail.head? fun x => gdK none x.str? fun s_4 => gdK none (O (Key.call 53)
 [AV.agg [B b_3, AV.t (T.str s_3)], AV.agg [B b_4, AV.t (T.str s_4)]] []) fun l => gdK none l.head? fun x => gdK none x.bool? fun b_5 => gdK none l.tail.head? fun x => gdK none x.str? fun s_5 => gdK none (O (Key.call 51)
 [AV.agg [B b, AV.t (T.str s)], AV.agg [B b_5, AV.t (T.str s_5)]] []) fun l => gdK none l.head? fun x => gdK none x.bool? fun b => gdK none l.tail.head? fun x => gdK none x.str? fun s => gdK none l.tail.tail.head? fun x =>
 gdK none x.bool? fun b_6 => gdK none l.tail.tail.tail.head? fun x => gdK none x.str? fun s_6 => some [T.bool b, T.str s, T.bool b_6, T.str s_6]) := by kernel_rfl
theorem e22 (O : Orc) (a0_0 : Bool) (a0_1 : ByteArray) (a0_2 : Bool) (a0_3 : ByteArray) (a1_0 : Bool) (a1_1 : ByteArray) (a1_2 : Bool) (a1_3 : ByteArray) : stepO PROG ann O (Key.call 22) [(AV.agg [(B a0_0), (AV.t (T.str a0_1)), (B a0_2), (AV.t (T.str a0_3))]), (AV.agg [(B a1_0), (AV.t (T.str a1_1)), (B a1_2), (AV.t (T.str a1_3))])] [] =
  (gdK none (O (Key.call 54) [AV.agg [B a1_0, AV.t (T.str a1_1), B a1_2, AV.t (T.str a1_3)]] []) fun l => gdK none l.head? fun x => gdK none x.bool? fun b => gdK none l.tail.head? fun x => gdK none x.str? fun s => gdK none
 (O (Key.call 53) [AV.agg [B a0_0, AV.t (T.str a0_1)], AV.agg [B b, AV.t (T.str s)]] []) fun l => gdK none l.head? fun x => gdK none x.bool? fun b => gdK none l.tail.head? fun x => gdK none x.str? fun s => gdK none (O
 (Key.call 54) [AV.agg [B a0_0, AV.t (T.str a0_1), B a0_2, AV.t (T.str a0_3)]] []) fun l => gdK none l.head? fun x => gdK none x.bool? fun b_1 => gdK none l.tail.head? fun x => gdK none x.str? fun s_1 => gdK none (O
 (Key.call 53) [AV.agg [B a1_0, AV.t (T.str a1_1)], AV.agg [B b_1, AV.t (T.str s_1)]] []) fun l => gdK none l.head? fun x => gdK none x.bool? fun b_2 => gdK none l.tail.head? fun x => gdK none x.str? fun s_2 => gdK none (O
 (Key.call 55) [AV.agg [B b, AV.t (T.str s)], AV.agg [B b_2, AV.t (T.str s_2)]] []) fun l => gdK none l.head? fun x => gdK none (T.int? IntKind.i64 x) fun n => some [T.int IntKind.i64 n]) := by kernel_rfl
theorem e23 (O : Orc) (a0_0 : Bool) (a0_1 : ByteArray) (a0_2 : Bool) (a0_3 : ByteArray) (a1_0 : Bool) (a1_1 : ByteArray) (a1_2 : Bool) (a1_3 : ByteArray) : stepO PROG ann O (Key.call 23) [(AV.agg [(B a0_0), (AV.t (T.str a0_1)), (B a0_2), (AV.t (T.str a0_3))]), (AV.agg [(B a1_0), (AV.t (T.str a1_1)), (B a1_2), (AV.t (T.str a1_3))])] [] =
  (gdK none (O (Key.call 54) [AV.agg [B a1_0, AV.t (T.str a1_1), B a1_2, AV.t (T.str a1_3)]] []) fun l => gdK none l.head? fun x => gdK none x.bool? fun b => gdK none l.tail.head? fun x => gdK none x.str? fun s => gdK none
 (O (Key.call 53) [AV.agg [B a0_0, AV.t (T.str a0_1)], AV.agg [B b, AV.t (T.str s)]] []) fun l => gdK none l.head? fun x => gdK none x.bool? fun b => gdK none l.tail.head? fun x => gdK none x.str? fun s => gdK none (O
 (Key.call 54) [AV.agg [B a0_0, AV.t (T.str a0_1), B a0_2, AV.t (T.str a0_3)]] []) fun l => gdK none l.head? fun x => gdK none x.bool? fun b_1 => gdK none l.tail.head? fun x => gdK none x.str? fun s_1 => gdK none (O
 (Key.call 53) [AV.agg [B b_1, AV.t (T.str s_1)], AV.agg [B a1_0, AV.t (T.str a1_1)]] []) fun l => gdK none l.head? fun x => gdK none x.bool? fun b_2 => gdK none l.tail.head? fun x => gdK none x.str? fun s_2 => gdK none (O
 (Key.call 51) [AV.agg [B b, AV.t (T.str s)], AV.agg [B b_2, AV.t (T.str s_2)]] []) fun l => gdK none l.head? fun x => gdK none x.bool? fun b => gdK none l.tail.head? fun x => gdK none x.str? fun s => gdK none
 l.tail.tail.head? fun x => gdK none x.bool? fun b_3 => gdK none l.tail.tail.tail.head? fun x => gdK none x.str? fun s_3 => some [T.bool b, T.str s, T.bool b_3, T.str s_3]) := by kernel_rfl
theorem e44 (O : Orc) (a0 : Int) : stepO PROG ann O (Key.call 44) [(I a0)] [] =
  (bif decide (a0 < (0 : Int)) then some [T.int IntKind.u64 (IntKind.u64.wrap ((0 : Int) - IntKind.u64.wrap a0))] else some [T.int IntKind.u64 (IntKind.u64.wrap a0)]) := by kernel_rfl
theorem e43 (O : Orc) (a0 : Int) (a1 : Int) : stepO PROG ann O (Key.call 43) [(AV.t (T.int IntKind.u64 a0)), (AV.t (T.int IntKind.u64 a1))] [] =
  (O K43n1 [AV.t (T.int IntKind.u64 a0), AV.t (T.int IntKind.u64 a1)] []) := by kernel_rfl
theorem e18n4 (O : Orc) (v1 : Int) (ev2 : Bool) (v2 : List (List T)) (v3 : Int) (v11 : Bool) (ev16 : Bool) (v16 : List (List T)) (v17 : Int) (v18 : Int) (c0_0 : Bool) (c0_1 : ByteArray) (c0_2 : Bool) (c0_3 : ByteArray) (c1_0 : Bool) (c1_1 : ByteArray) (c1_2 : Bool) (c1_3 : ByteArray) : stepO PROG ann O K18n4 [(I v1), (AV.t (T.lst 2 ev2 v2)), (I v3), (AV.ref (Id.c 0) 0), (AV.ref (Id.c 1) 0), (B v11), (AV.t (T.lst 4 ev16 v16)), (I v17), (I v18)] [(Blk.box [(B c0_0), (AV.t (T.str c0_1)), (B c0_2), (AV.t (T.str c0_3))]), (Blk.box [(B c1_0), (AV.t (T.str c1_1)), (B c1_2), (AV.t (T.str c1_3))])] =
  (bif decide (v18 < v17) then gdK none (if (0 : Int) ≤ v18 ∧ v18 < (↑v16.length : Int) then some () else none) fun x => gdK none v16[v18.toNat]? fun l => gdK none l.head? fun x => gdK none l.tail.head? fun x_1 => gdK none
 l.tail.tail.head? fun x_2 => gdK none l.tail.tail.tail.head? fun x_3 => gdK none (T.lst? 1 x) fun p => gdK none (T.int? IntKind.i64 x_1) fun n => gdK none x_2.bool? fun b => gdK none (T.int? IntKind.i64 x_3) fun n_1 =>
 gdK none (O (Key.call 48) [AV.agg [AV.t (T.lst 1 p.fst p.snd), I n, B b, I n_1], I v1, AV.t (T.lst 2 ev2 v2)] []) fun l => gdK none l.head? fun x => gdK none x.bool? fun b_1 => gdK none l.tail.head? fun x => gdK none
 x.str? fun s => gdK none l.tail.tail.head? fun x => gdK none x.bool? fun b_2 => gdK none l.tail.tail.tail.head? fun x => gdK none x.str? fun s_1 => bif decide (v18 > (0 : Int)) then gdK none (O (Key.call 22) [AV.agg [B
 b_1, AV.t (T.str s), B b_2, AV.t (T.str s_1)], AV.agg [B c1_0, AV.t (T.str c1_1), B c1_2, AV.t (T.str c1_3)]] []) fun l => gdK none l.head? fun x => gdK none (T.int? IntKind.i64 x) fun n => bif decide (IntKind.i64.wrap
 (v3 * n) < (0 : Int)) then O K18n4 [I v1, AV.t (T.lst 2 ev2 v2), I v3, AV.ref (Id.c 0) 0, AV.ref (Id.c 1) 0, B b, AV.t (T.lst 4 ev16 v16), I v17, I (IntKind.i64.wrap (v18 + (1 : Int)))] [Blk.box [B c0_0, AV.t (T.str
 c0_1), B c0_2, AV.t (T.str c0_3)], Blk.box [B b_1, AV.t (T.str s), B b_2, AV.t (T.str s_1)]] else bif IntKind.i64.wrap (v3 * n) == (0 : Int) then O K18n4 [I v1, AV.t (T.lst 2 ev2 v2), I v3, AV.ref (Id.c 0) 0, AV.ref (Id.c
 1) 0, B (bif v11 then true else b), AV.t (T.lst 4 ev16 v16), I v17, I (IntKind.i64.wrap (v18 + (1 : Int)))] [Blk.box [B c0_0, AV.t (T.str c0_1), B c0_2, AV.t (T.str c0_3)], Blk.box [B c1_0, AV.t (T.str c1_1), B c1_2, AV.t
 (T.str c1_3)]] else O K18n4 [I v1, AV.t (T.lst 2 ev2 v2), I v3, AV.ref (Id.c 0) 0, AV.ref (Id.c 1) 0, B v11, AV.t (T.lst 4 ev16 v16), I v17, I (IntKind.i64.wrap (v18 + (1 : Int)))] [Blk.box [B c0_0, AV.t (T.str c0_1), B
 c0_2, AV.t (T.str c0_3)], Blk.box [B c1_0, AV.t (T.str c1_1), B c1_2, AV.t (T.str c1_3)]] else O K18n4 [I v1, AV.t (T.lst 2 ev2 v2), I v3, AV.ref (Id.c 0) 0, AV.ref (Id.c 1) 0, B b, AV.t (T.lst 4 ev16 v16), I v17, I
 (IntKind.i64.wrap (v18 + (1 : Int)))] [Blk.box [B c0_0, AV.t (T.str c0_1), B c0_2, AV.t (T.str c0_3)], Blk.box [B b_1, AV.t (T.str s), B b_2, AV.t (T.str s_1)]] else some [T.bool c1_0, T.str c1_1, T.bool c1_2, T.str c1_3,
 T.bool v11]) := by kernel_rfl
theorem e56 (O : Orc) (a0_0 : Bool) (a0_1 : ByteArray) : stepO PROG ann O (Key.call 56) [(AV.agg [(B a0_0), (AV.t (T.str a0_1))])] [] =
  (gdK none (O (Key.call 97) [AV.agg [B a0_0, AV.t (T.str a0_1)]] []) fun l => gdK none l.head? fun x => gdK none (T.lst? 1 x) fun p => bif decide ((↑p.snd.length : Int) > (2 : Int)) then some [T.int IntKind.i64 (0 : Int),
 T.bool false] else O K56n6 [AV.ref (Id.c 0) 0, AV.t (T.int IntKind.u64 (0 : Int)), AV.t (T.lst 1 p.fst p.snd), I (↑p.snd.length : Int), I (0 : Int)] [Blk.box [B a0_0, AV.t (T.str a0_1)]]) := by kernel_rfl
theorem e54 (O : Orc) (a0_0 : Bool) (a0_1 : ByteArray) (a0_2 : Bool) (a0_3 : ByteArray) : stepO PROG ann O (Key.call 54) [(AV.agg [(B a0_0), (AV.t (T.str a0_1)), (B a0_2), (AV.t (T.str a0_3))])] [] =
  (gdK none (O (Key.call 91) [AV.agg [B a0_2, AV.t (T.str a0_3)]] []) fun l => gdK none l.head? fun x => gdK none (T.int? IntKind.i64 x) fun n => bif n == (0 : Int) then gdK none (O (Key.call 50) [I (1 : Int)] []) fun l =>
 gdK none l.head? fun x => gdK none x.bool? fun b => gdK none l.tail.head? fun x => gdK none x.str? fun s => some [T.bool b, T.str s] else some [T.bool a0_2, T.str a0_3]) := by kernel_rfl
theorem e50 (O : Orc) (a0 : Int) : stepO PROG ann O (Key.call 50) [(I a0)] [] =
  (bif decide (a0 < (0 : Int)) then gdK none (O (Key.call 90) [B (decide (a0 < (0 : Int))), AV.t (T.lst 1 false [[T.int IntKind.u32 (IntKind.u32.wrap (IntKind.u64.wrap ((0 : Int) - IntKind.u64.wrap a0)))], [T.int IntKind.u32
 (IntKind.u32.wrap ((IntKind.u64.wrap ((0 : Int) - IntKind.u64.wrap a0)).fdiv ((2 : Int) ^ 32)))]])] []) fun l => gdK none l.head? fun x => gdK none x.bool? fun b => gdK none l.tail.head? fun x => gdK none x.str? fun s =>
 some [T.bool b, T.str s] else gdK none (O (Key.call 90) [B (decide (a0 < (0 : Int))), AV.t (T.lst 1 false [[T.int IntKind.u32 (IntKind.u32.wrap (IntKind.u64.wrap a0))], [T.int IntKind.u32 (IntKind.u32.wrap
 ((IntKind.u64.wrap a0).fdiv ((2 : Int) ^ 32)))]])] []) fun l => gdK none l.head? fun x => gdK none x.bool? fun b => gdK none l.tail.head? fun x => gdK none x.str? fun s => some [T.bool b, T.str s]) := by kernel_rfl
theorem e49 (O : Orc) (a0_0 : Bool) (a0_1 : ByteArray) (a0_2 : Bool) (a0_3 : ByteArray) : stepO PROG ann O (Key.call 49) [(AV.agg [(B a0_0), (AV.t (T.str a0_1)), (B a0_2), (AV.t (T.str a0_3))])] [] =
  (gdK none (O (Key.call 89) [AV.agg [B a0_0, AV.t (T.str a0_1)]] []) fun l => gdK none l.head? fun x => gdK none x.bool? fun b => gdK none l.tail.head? fun x => gdK none x.str? fun s => gdK none (O (Key.call 54) [AV.agg [B
 a0_0, AV.t (T.str a0_1), B a0_2, AV.t (T.str a0_3)]] []) fun l => gdK none l.head? fun x => gdK none x.bool? fun b_1 => gdK none l.tail.head? fun x => gdK none x.str? fun s_1 => some [T.bool b, T.str s, T.bool b_1, T.str
 s_1]) := by kernel_rfl
theorem e53 (O : Orc) (a0_0 : Bool) (a0_1 : ByteArray) (a1_0 : Bool) (a1_1 : ByteArray) : stepO PROG ann O (Key.call 53) [(AV.agg [(B a0_0), (AV.t (T.str a0_1))]), (AV.agg [(B a1_0), (AV.t (T.str a1_1))])] [] =
  (gdK none (O (Key.call 95) [AV.agg [B a0_0, AV.t (T.str a0_1)], AV.agg [B a1_0, AV.t (T.str a1_1)]] []) fun l => gdK none l.head? fun x => gdK none x.bool? fun b => gdK none l.tail.head? fun x => gdK none x.str? fun s =>
 gdK none (List.drop 2 l).head? fun x => gdK none (T.int? IntKind.i64 x) fun n => some [T.bool b, T.str s]) := by kernel_rfl
theorem e52 (O : Orc) (a0_0 : Bool) (a0_1 : ByteArray) (a1_0 : Bool) (a1_1 : ByteArray) : stepO PROG ann O (Key.call 52) [(AV.agg [(B a0_0), (AV.t (T.str a0_1))]), (AV.agg [(B a1_0), (AV.t (T.str a1_1))])] [] =
  (gdK none (O (Key.call 94) [AV.agg [B a0_0, AV.t (T.str a0_1)], AV.agg [B a1_0, AV.t (T.str a1_1)]] []) fun l => gdK none l.head? fun x => gdK none x.bool? fun b => gdK none l.tail.head? fun x => gdK none x.str? fun s =>
 gdK none (List.drop 2 l).head? fun x => gdK none (T.int? IntKind.i64 x) fun n => some [T.bool b, T.str s]) := by kernel_rfl
theorem e51 (O : Orc) (a0_0 : Bool) (a0_1 : ByteArray) (a1_0 : Bool) (a1_1 : ByteArray) : stepO PROG ann O (Key.call 51) [(AV.agg [(B a0_0), (AV.t (T.str a0_1))]), (AV.agg [(B a1_0), (AV.t (T.str a1_1))])] [] =
  (gdK none (O (Key.call 91) [AV.agg [B a1_0, AV.t (T.str a1_1)]] []) fun l => gdK none l.head? fun x => gdK none (T.int? IntKind.i64 x) fun n => bif decide (n < (0 : Int)) then gdK none (O (Key.call 89) [AV.agg [B a0_0,
 AV.t (T.str a0_1)]] []) fun l => gdK none l.head? fun x => gdK none x.bool? fun b => gdK none l.tail.head? fun x => gdK none x.str? fun s => gdK none (O (Key.call 89) [AV.agg [B a1_0, AV.t (T.str a1_1)]] []) fun l => gdK
 none l.head? fun x => gdK none x.bool? fun b_1 => gdK none l.tail.head? fun x => gdK none x.str? fun s_1 => gdK none (O (Key.call 92) [AV.agg [B b, AV.t (T.str s)], AV.agg [B b_1, AV.t (T.str s_1)]] []) fun l => gdK none
 l.head? fun x => gdK none x.bool? fun b_2 => gdK none l.tail.head? fun x => gdK none x.str? fun s_2 => gdK none (O (Key.call 93) [AV.agg [B b, AV.t (T.str s)], AV.agg [B b_2, AV.t (T.str s_2)]] []) fun l => gdK none
 l.head? fun x => gdK none x.bool? fun b => gdK none l.tail.head? fun x => gdK none x.str? fun s => gdK none (List.drop 2 l).head? fun x => gdK none x.bool? fun b_3 => gdK none (List.drop 2 l).tail.head? fun x => gdK none
 x.str? fun s_3 => gdK none (List.drop 2 (List.drop 2 l)).head? fun x => gdK none (T.int? IntKind.i64 x) fun n => gdK none (O (Key.call 93) [AV.agg [B b_1, AV.t (T.str s_1)], AV.agg [B b_2, AV.t (T.str s_2)]] []) fun l =>
 gdK none l.head? fun x => gdK none x.bool? fun b_4 => gdK none l.tail.head? fun x => gdK none x.str? fun s_4 => gdK none (List.drop 2 l).head? fun x => gdK none x.bool? fun b_5 => gdK none (List.drop 2 l).tail.head? fun x
 => gdK none x.str? fun s_5 => gdK none (List.drop 2 (List.drop 2 l)).head? fun x => gdK none (T.int? IntKind.i64 x) fun n => some [T.bool b, T.str s, T.bool b_4, T.str s_4] else gdK none (O (Key.call 92) [AV.agg [B a0_0,
 AV.t (T.str a0_1)], AV.agg [B a1_0, AV.t (T.str a1_1)]] []) fun l => gdK none l.head? fun x => gdK none x.bool? fun b => gdK none l.tail.head? fun x => gdK none x.str? fun s => gdK none (O (Key.call 93) [AV.agg [B a0_0,
 AV.t (T.str a0_1)], AV.agg [B b, AV.t (T.str s)]] []) fun l => gdK none l.head? fun x => gdK none x.bool? fun b_1 => gdK none l.tail.head? fun x => gdK none x.str? fun s_1 => gdK none (List.drop 2 l).head? fun x => gdK
 none x.bool? fun b_2 => gdK none (List.drop 2 l).tail.head? fun x => gdK none x.str? fun s_2 => gdK none (List.drop 2 (List.drop 2 l)).head? fun x => gdK none (T.int? IntKind.i64 x) fun n => gdK none (O (Key.call 93)
 [AV.agg [B a1_0, AV.t (T.str a1_1)], AV.agg [B b, AV.t (T.str s)]] []) fun l => gdK none l.head? fun x => gdK none x.bool? fun b => gdK none l.tail.head? fun x => gdK none x.str? fun s => gdK none (List.drop 2 l).head?
 fun x => gdK none x.bool? fun b_3 => gdK none (List.drop 2 l).tail.head? fun x => gdK none x.str? fun s_3 => gdK none (List.drop 2 (List.drop 2 l)).head? fun x => gdK none (T.int? IntKind.i64 x) fun n => some [T.bool b_1,
 T.str s_1, T.bool b, T.str s]) := by kernel_rfl
theorem e55 (O : Orc) (a0_0 : Bool) (a0_1 : ByteArray) (a1_0 : Bool) (a1_1 : ByteArray) : stepO PROG ann O (Key.call 55) [(AV.agg [(B a0_0), (AV.t (T.str a0_1))]), (AV.agg [(B a1_0), (AV.t (T.str a1_1))])] [] =
  (gdK none (O (Key.call 91) [AV.agg [B a0_0, AV.t (T.str a0_1)]] []) fun l => gdK none l.head? fun x => gdK none (T.int? IntKind.i64 x) fun n => gdK none (O (Key.call 91) [AV.agg [B a1_0, AV.t (T.str a1_1)]] []) fun l =>
 gdK none l.head? fun x => gdK none (T.int? IntKind.i64 x) fun n_1 => bif !n == n_1 then bif decide (n < n_1) then some [T.int IntKind.i64 (-1 : Int)] else some [T.int IntKind.i64 (1 : Int)] else bif a0_0 then gdK none (O
 (Key.call 97) [AV.agg [B a1_0, AV.t (T.str a1_1)]] []) fun l => gdK none l.head? fun x => gdK none (T.lst? 1 x) fun p => gdK none (O (Key.call 97) [AV.agg [B a0_0, AV.t (T.str a0_1)]] []) fun l => gdK none l.head? fun x
 => gdK none (T.lst? 1 x) fun p_1 => gdK none (O (Key.call 96) [AV.t (T.lst 1 p.fst p.snd), AV.t (T.lst 1 p_1.fst p_1.snd)] []) fun l => gdK none l.head? fun x => gdK none (T.int? IntKind.i64 x) fun n => some [T.int
 IntKind.i64 n] else gdK none (O (Key.call 97) [AV.agg [B a0_0, AV.t (T.str a0_1)]] []) fun l => gdK none l.head? fun x => gdK none (T.lst? 1 x) fun p => gdK none (O (Key.call 97) [AV.agg [B a1_0, AV.t (T.str a1_1)]] [])
 fun l => gdK none l.head? fun x => gdK none (T.lst? 1 x) fun p_1 => gdK none (O (Key.call 96) [AV.t (T.lst 1 p.fst p.snd), AV.t (T.lst 1 p_1.fst p_1.snd)] []) fun l => gdK none l.head? fun x => gdK none (T.int?
 IntKind.i64 x) fun n => some [T.int IntKind.i64 n]) := by kernel_rfl
theorem e43n1 (O : Orc) (v0 : Int) (v1 : Int) : stepO PROG ann O K43n1 [(AV.t (T.int IntKind.u64 v0)), (AV.t (T.int IntKind.u64 v1))] [] =
  (bif !v1 == (0 : Int) then gdK none (if v1 = (0 : Int) then none else some ()) fun x => O K43n1 [AV.t (T.int IntKind.u64 v1), AV.t (T.int IntKind.u64 (v0.tmod v1))] [] else some [T.int IntKind.u64 v0]) := by kernel_rfl
theorem e48 (O : Orc) (ea0_0 : Bool) (a0_0 : List (List T)) (a0_1 : Int) (a0_2 : Bool) (a0_3 : Int) (a1 : Int) (ea2 : Bool) (a2 : List (List T)) : stepO PROG ann O (Key.call 48) [(AV.agg [(AV.t (T.lst 1 ea0_0 a0_0)), (I a0_1), (B a0_2), (I a0_3)]), (I a1), (AV.t (T.lst 2 ea2 a2))] [] =
  (gdK none (O (Key.call 20) [I a0_1] []) fun l => gdK none l.head? fun x => gdK none x.bool? fun b => gdK none l.tail.head? fun x => gdK none x.str? fun s => gdK none l.tail.tail.head? fun x => gdK none x.bool? fun b_1 =>
 gdK none l.tail.tail.tail.head? fun x => gdK none x.str? fun s_1 => O K48n3 [I a1, AV.t (T.lst 2 ea2 a2), AV.ref (Id.c 0) 0, AV.ref (Id.c 1) 0, AV.ref (Id.c 2) 0, AV.t (T.lst 1 ea0_0 a0_0), I (↑a0_0.length : Int), I (0 :
 Int)] [Blk.box [AV.t (T.lst 1 ea0_0 a0_0), I a0_1, B a0_2, I a0_3], Blk.box [B false, AV.t (T.str (ByteArray.mk #[])), B false, AV.t (T.str (ByteArray.mk #[]))], Blk.box [B b, AV.t (T.str s), B b_1, AV.t (T.str s_1)]]) := by kernel_rfl
theorem e97 (O : Orc) (a0_0 : Bool) (a0_1 : ByteArray) : stepO PROG ann O (Key.call 97) [(AV.agg [(B a0_0), (AV.t (T.str a0_1))])] [] =
  (gdK none (mkOk (IntKind.i64.wrap ((↑a0_1.size : Int).tdiv (4 : Int))) (IntKind.i64.wrap ((↑a0_1.size : Int).tdiv (4 : Int)))) fun x => O K97n3 [AV.ref (Id.c 0) 0, AV.own (Id.c 1), AV.t (T.int IntKind.i64 (↑(List.replicate
 (IntKind.i64.wrap ((↑a0_1.size : Int).tdiv (4 : Int))).toNat [T.int IntKind.u32 (0 : Int)]).length : Int)), I (0 : Int)] [Blk.box [B a0_0, AV.t (T.str a0_1)], Blk.sl false 1 false (List.replicate (IntKind.i64.wrap
 ((↑a0_1.size : Int).tdiv (4 : Int))).toNat [T.int IntKind.u32 (0 : Int)])]) := by kernel_rfl
theorem e56n6 (O : Orc) (v5 : Int) (ev13 : Bool) (v13 : List (List T)) (v14 : Int) (v15 : Int) (c0_0 : Bool) (c0_1 : ByteArray) : stepO PROG ann O K56n6 [(AV.ref (Id.c 0) 0), (AV.t (T.int IntKind.u64 v5)), (AV.t (T.lst 1 ev13 v13)), (I v14), (I v15)] [(Blk.box [(B c0_0), (AV.t (T.str c0_1))])] =
  (bif decide (v15 < v14) then gdK none (if (0 : Int) ≤ v15 ∧ v15 < (↑v13.length : Int) then some () else none) fun x => gdK none v13[v15.toNat]? fun l => gdK none l.head? fun x => gdK none (T.int? IntKind.u32 x) fun n =>
 gdK none (if IntKind.i64.wrap ((32 : Int) * v15) < (0 : Int) then none else some ()) fun x => O K56n6 [AV.ref (Id.c 0) 0, AV.t (T.int IntKind.u64 (IntKind.u64.wrap (↑(BitVec.ofInt 64 v5 ||| BitVec.ofInt 64
 (IntKind.u64.wrap (IntKind.u64.wrap n * (2 : Int) ^ min (IntKind.i64.wrap ((32 : Int) * v15)).toNat 64))).toNat : Int))), AV.t (T.lst 1 ev13 v13), I v14, I (IntKind.i64.wrap (v15 + (1 : Int)))] [Blk.box [B c0_0, AV.t
 (T.str c0_1)]] else bif bif c0_0 then decide (v5 ≤ (9223372036854775808 : Int)) else false then some [T.int IntKind.i64 (IntKind.i64.wrap ((0 : Int) - IntKind.i64.wrap v5)), T.bool true] else bif bif !c0_0 then decide (v5
 < (9223372036854775808 : Int)) else false then some [T.int IntKind.i64 (IntKind.i64.wrap v5), T.bool true] else some [T.int IntKind.i64 (0 : Int), T.bool false]) := by kernel_rfl
theorem e91 (O : Orc) (a0_0 : Bool) (a0_1 : ByteArray) : stepO PROG ann O (Key.call 91) [(AV.agg [(B a0_0), (AV.t (T.str a0_1))])] [] =
  (bif a0_1.toList == (ByteArray.mk #[]).toList then some [T.int IntKind.i64 (0 : Int)] else bif a0_0 then some [T.int IntKind.i64 (-1 : Int)] else some [T.int IntKind.i64 (1 : Int)]) := by kernel_rfl
theorem e90 (O : Orc) (a0 : Bool) (ea1 : Bool) (a1 : List (List T)) : stepO PROG ann O (Key.call 90) [(B a0), (AV.t (T.lst 1 ea1 a1))] [] =
  (gdK none (O (Key.call 112) [AV.t (T.lst 1 ea1 a1)] []) fun l => gdK none l.head? fun x => gdK none (T.lst? 1 x) fun p => gdK none (mkOk (0 : Int) (IntKind.i64.wrap ((4 : Int) * (↑p.snd.length : Int)))) fun x => O K90n4 [B
 a0, AV.t (T.lst 1 p.fst p.snd), AV.ref (Id.c 0) 0, AV.own (Id.c 1), AV.t (T.lst 1 p.fst p.snd), I (↑p.snd.length : Int), I (0 : Int)] [Blk.box [B false, AV.t (T.str (ByteArray.mk #[]))], Blk.sl false 1 false []]) := by kernel_rfl
theorem e89 (O : Orc) (a0_0 : Bool) (a0_1 : ByteArray) : stepO PROG ann O (Key.call 89) [(AV.agg [(B a0_0), (AV.t (T.str a0_1))])] [] =
  (some [T.bool (bif !a0_0 then !a0_1.toList == (ByteArray.mk #[]).toList else false), T.str a0_1]) := by kernel_rfl
theorem e95 (O : Orc) (a0_0 : Bool) (a0_1 : ByteArray) (a1_0 : Bool) (a1_1 : ByteArray) : stepO PROG ann O (Key.call 95) [(AV.agg [(B a0_0), (AV.t (T.str a0_1))]), (AV.agg [(B a1_0), (AV.t (T.str a1_1))])] [] =
  (gdK none (O (Key.call 117) [AV.agg [B a0_0, AV.t (T.str a0_1)]] []) fun l => gdK none l.head? fun x => gdK none (T.int? IntKind.i64 x) fun n => gdK none (O (Key.call 117) [AV.agg [B a1_0, AV.t (T.str a1_1)]] []) fun l =>
 gdK none l.head? fun x => gdK none (T.int? IntKind.i64 x) fun n_1 => bif decide (IntKind.i64.wrap (n + n_1) > (131073 : Int)) then some [T.bool false, T.str (ByteArray.mk #[]), T.int IntKind.i64 (10 : Int)] else gdK none
 (O (Key.call 97) [AV.agg [B a0_0, AV.t (T.str a0_1)]] []) fun l => gdK none l.head? fun x => gdK none (T.lst? 1 x) fun p => gdK none (O (Key.call 97) [AV.agg [B a1_0, AV.t (T.str a1_1)]] []) fun l => gdK none l.head? fun
 x => gdK none (T.lst? 1 x) fun p_1 => gdK none (O (Key.call 118) [AV.t (T.lst 1 p.fst p.snd), AV.t (T.lst 1 p_1.fst p_1.snd)] []) fun l => gdK none l.head? fun x => gdK none (T.lst? 1 x) fun p => gdK none (O (Key.call 90)
 [B !a0_0 == a1_0, AV.t (T.lst 1 p.fst p.snd)] []) fun l => gdK none l.head? fun x => gdK none x.bool? fun b => gdK none l.tail.head? fun x => gdK none x.str? fun s => gdK none (O (Key.call 116) [AV.agg [B b, AV.t (T.str
 s)]] []) fun l => gdK none l.head? fun x => gdK none x.bool? fun b => gdK none l.tail.head? fun x => gdK none x.str? fun s => gdK none (List.drop 2 l).head? fun x => gdK none (T.int? IntKind.i64 x) fun n => some [T.bool
 b, T.str s, T.int IntKind.i64 n]) := by kernel_rfl
theorem e94 (O : Orc) (a0_0 : Bool) (a0_1 : ByteArray) (a1_0 : Bool) (a1_1 : ByteArray) : stepO PROG ann O (Key.call 94) [(AV.agg [(B a0_0), (AV.t (T.str a0_1))]), (AV.agg [(B a1_0), (AV.t (T.str a1_1))])] [] =
  (gdK none (O (Key.call 114) [AV.agg [B a0_0, AV.t (T.str a0_1)], AV.agg [B a1_0, AV.t (T.str a1_1)]] []) fun l => gdK none l.head? fun x => gdK none x.bool? fun b => gdK none l.tail.head? fun x => gdK none x.str? fun s =>
 gdK none (O (Key.call 116) [AV.agg [B b, AV.t (T.str s)]] []) fun l => gdK none l.head? fun x => gdK none x.bool? fun b => gdK none l.tail.head? fun x => gdK none x.str? fun s => gdK none (List.drop 2 l).head? fun x =>
 gdK none (T.int? IntKind.i64 x) fun n => some [T.bool b, T.str s, T.int IntKind.i64 n]) := by kernel_rfl
theorem e92 (O : Orc) (a0_0 : Bool) (a0_1 : ByteArray) (a1_0 : Bool) (a1_1 : ByteArray) : stepO PROG ann O (Key.call 92) [(AV.agg [(B a0_0), (AV.t (T.str a0_1))]), (AV.agg [(B a1_0), (AV.t (T.str a1_1))])] [] =
  (gdK none (O (Key.call 97) [AV.agg [B a0_0, AV.t (T.str a0_1)]] []) fun l => gdK none l.head? fun x => gdK none (T.lst? 1 x) fun p => gdK none (O (Key.call 112) [AV.t (T.lst 1 p.fst p.snd)] []) fun l => gdK none l.head?
 fun x => gdK none (T.lst? 1 x) fun p => gdK none (O (Key.call 97) [AV.agg [B a1_0, AV.t (T.str a1_1)]] []) fun l => gdK none l.head? fun x => gdK none (T.lst? 1 x) fun p_1 => gdK none (O (Key.call 112) [AV.t (T.lst 1
 p_1.fst p_1.snd)] []) fun l => gdK none l.head? fun x => gdK none (T.lst? 1 x) fun p_2 => O K92n2 [AV.ref (Id.c 0) 0, AV.t (T.lst 1 p.fst p.snd), AV.t (T.lst 1 p_2.fst p_2.snd)] [Blk.box [B false, AV.t (T.str
 (ByteArray.mk #[]))]]) := by kernel_rfl
theorem e93 (O : Orc) (a0_0 : Bool) (a0_1 : ByteArray) (a1_0 : Bool) (a1_1 : ByteArray) : stepO PROG ann O (Key.call 93) [(AV.agg [(B a0_0), (AV.t (T.str a0_1))]), (AV.agg [(B a1_0), (AV.t (T.str a1_1))])] [] =
  (gdK none (O (Key.call 91) [AV.agg [B a1_0, AV.t (T.str a1_1)]] []) fun l => gdK none l.head? fun x => gdK none (T.int? IntKind.i64 x) fun n => bif n == (0 : Int) then some [T.bool false, T.str (ByteArray.mk #[]), T.bool
 false, T.str (ByteArray.mk #[]), T.int IntKind.i64 (6 : Int)] else gdK none (O (Key.call 97) [AV.agg [B a0_0, AV.t (T.str a0_1)]] []) fun l => gdK none l.head? fun x => gdK none (T.lst? 1 x) fun p => gdK none (O (Key.call
 97) [AV.agg [B a1_0, AV.t (T.str a1_1)]] []) fun l => gdK none l.head? fun x => gdK none (T.lst? 1 x) fun p_1 => gdK none (O (Key.call 113) [AV.t (T.lst 1 p.fst p.snd), AV.t (T.lst 1 p_1.fst p_1.snd)] []) fun l => gdK
 none l.head? fun x => gdK none (T.lst? 1 x) fun p => gdK none l.tail.head? fun x => gdK none (T.lst? 1 x) fun p_2 => gdK none (O (Key.call 90) [B !a0_0 == a1_0, AV.t (T.lst 1 p.fst p.snd)] []) fun l => gdK none l.head?
 fun x => gdK none x.bool? fun b => gdK none l.tail.head? fun x => gdK none x.str? fun s => gdK none (O (Key.call 90) [B a0_0, AV.t (T.lst 1 p_2.fst p_2.snd)] []) fun l => gdK none l.head? fun x => gdK none x.bool? fun b_1
 => gdK none l.tail.head? fun x => gdK none x.str? fun s_1 => gdK none (O (Key.call 91) [AV.agg [B b_1, AV.t (T.str s_1)]] []) fun l => gdK none l.head? fun x => gdK none (T.int? IntKind.i64 x) fun n => bif decide (n < (0
 : Int)) then gdK none (O (Key.call 115) [AV.agg [B a1_0, AV.t (T.str a1_1)]] []) fun l => gdK none l.head? fun x => gdK none x.bool? fun b_2 => gdK none l.tail.head? fun x => gdK none x.str? fun s_2 => gdK none (O
 (Key.call 114) [AV.agg [B b_1, AV.t (T.str s_1)], AV.agg [B b_2, AV.t (T.str s_2)]] []) fun l => gdK none l.head? fun x => gdK none x.bool? fun b_3 => gdK none l.tail.head? fun x => gdK none x.str? fun s_3 => bif a1_0
 then gdK none (O (Key.call 50) [I (1 : Int)] []) fun l => gdK none l.head? fun x => gdK none x.bool? fun b_4 => gdK none l.tail.head? fun x => gdK none x.str? fun s_4 => gdK none (O (Key.call 114) [AV.agg [B b, AV.t
 (T.str s)], AV.agg [B b_4, AV.t (T.str s_4)]] []) fun l => gdK none l.head? fun x => gdK none x.bool? fun b => gdK none l.tail.head? fun x => gdK none x.str? fun s => some [T.bool b, T.str s, T.bool b_3, T.str s_3, T.int
 IntKind.i64 (0 : Int)] else gdK none (O (Key.call 50) [AV.t (T.int IntKind.i64 (-1 : Int))] []) fun l => gdK none l.head? fun x => gdK none x.bool? fun b_4 => gdK none l.tail.head? fun x => gdK none x.str? fun s_4 => gdK
 none (O (Key.call 114) [AV.agg [B b, AV.t (T.str s)], AV.agg [B b_4, AV.t (T.str s_4)]] []) fun l => gdK none l.head? fun x => gdK none x.bool? fun b => gdK none l.tail.head? fun x => gdK none x.str? fun s => some [T.bool
 b, T.str s, T.bool b_3, T.str s_3, T.int IntKind.i64 (0 : Int)] else some [T.bool b, T.str s, T.bool b_1, T.str s_1, T.int IntKind.i64 (0 : Int)]) := by kernel_rfl
theorem e96 (O : Orc) (ea0 : Bool) (a0 : List (List T)) (ea1 : Bool) (a1 : List (List T)) : stepO PROG ann O (Key.call 96) [(AV.t (T.lst 1 ea0 a0)), (AV.t (T.lst 1 ea1 a1))] [] =
  (bif !(↑a0.length : Int) == (↑a1.length : Int) then bif decide ((↑a0.length : Int) < (↑a1.length : Int)) then some [T.int IntKind.i64 (-1 : Int)] else some [T.int IntKind.i64 (1 : Int)] else O K96n6 [AV.t (T.lst 1 ea0 a0),
 AV.t (T.lst 1 ea1 a1), I (IntKind.i64.wrap ((↑a0.length : Int) - (1 : Int)))] []) := by kernel_rfl
theorem e48n3 (O : Orc) (v1 : Int) (ev2 : Bool) (v2 : List (List T)) (ev14 : Bool) (v14 : List (List T)) (v15 : Int) (v16 : Int) (ec0_0 : Bool) (c0_0 : List (List T)) (c0_1 : Int) (c0_2 : Bool) (c0_3 : Int) (c1_0 : Bool) (c1_1 : ByteArray) (c1_2 : Bool) (c1_3 : ByteArray) (c2_0 : Bool) (c2_1 : ByteArray) (c2_2 : Bool) (c2_3 : ByteArray) : stepO PROG ann O K48n3 [(I v1), (AV.t (T.lst 2 ev2 v2)), (AV.ref (Id.c 0) 0), (AV.ref (Id.c 1) 0), (AV.ref (Id.c 2) 0), (AV.t (T.lst 1 ev14 v14)), (I v15), (I v16)] [(Blk.box [(AV.t (T.lst 1 ec0_0 c0_0)), (I c0_1), (B c0_2), (I c0_3)]), (Blk.box [(B c1_0), (AV.t (T.str c1_1)), (B c1_2), (AV.t (T.str c1_3))]), (Blk.box [(B c2_0), (AV.t (T.str c2_1)), (B c2_2), (AV.t (T.str c2_3))])] =
  (bif decide (v16 < v15) then gdK none (if (0 : Int) ≤ v16 ∧ v16 < (↑v14.length : Int) then some () else none) fun x => gdK none v14[v16.toNat]? fun l => gdK none l.head? fun x => gdK none (T.int? IntKind.i64 x) fun n =>
 bif !v16 == v1 then gdK none (O (Key.call 20) [I n] []) fun l => gdK none l.head? fun x => gdK none x.bool? fun b => gdK none l.tail.head? fun x => gdK none x.str? fun s => gdK none l.tail.tail.head? fun x => gdK none
 x.bool? fun b_1 => gdK none l.tail.tail.tail.head? fun x => gdK none x.str? fun s_1 => gdK none (if (0 : Int) ≤ v16 ∧ v16 < (↑v2.length : Int) then some () else none) fun x => gdK none v2[v16.toNat]? fun l => gdK none
 l.head? fun x => gdK none l.tail.head? fun x_1 => gdK none (T.int? IntKind.i64 x) fun n => gdK none (T.int? IntKind.i64 x_1) fun n_1 => gdK none (O (Key.call 88) [AV.agg [I n, I n_1]] []) fun l => gdK none l.head? fun x
 => gdK none x.bool? fun b_2 => gdK none l.tail.head? fun x => gdK none x.str? fun s_2 => gdK none l.tail.tail.head? fun x => gdK none x.bool? fun b_3 => gdK none l.tail.tail.tail.head? fun x => gdK none x.str? fun s_3 =>
 gdK none (O (Key.call 87) [AV.agg [B b, AV.t (T.str s), B b_1, AV.t (T.str s_1)], AV.agg [B b_2, AV.t (T.str s_2), B b_3, AV.t (T.str s_3)]] []) fun l => gdK none l.head? fun x => gdK none x.bool? fun b => gdK none
 l.tail.head? fun x => gdK none x.str? fun s => gdK none l.tail.tail.head? fun x => gdK none x.bool? fun b_4 => gdK none l.tail.tail.tail.head? fun x => gdK none x.str? fun s_4 => gdK none (O (Key.call 19) [AV.agg [B c2_0,
 AV.t (T.str c2_1), B c2_2, AV.t (T.str c2_3)], AV.agg [B b, AV.t (T.str s), B b_4, AV.t (T.str s_4)]] []) fun l => gdK none l.head? fun x => gdK none x.bool? fun b => gdK none l.tail.head? fun x => gdK none x.str? fun s
 => gdK none l.tail.tail.head? fun x => gdK none x.bool? fun b_5 => gdK none l.tail.tail.tail.head? fun x => gdK none x.str? fun s_5 => O (nodeKey PROG 48 true 3 [(1, none), (2, none), (3, none), (6, none), (7, none), (14,
 none), (15, none), (16, none)] (0, 0)) [AV.t (T.int IntKind.i64 v1), AV.t (T.lst 2 ev2 v2), AV.ref (Id.c 0) 0, AV.ref (Id.c 1) 0, AV.ref (Id.c 2) 0, AV.t (T.lst 1 ev14 v14), AV.t (T.int IntKind.i64 v15), AV.t (T.int
 IntKind.i64 (IntKind.i64.wrap (v16 + (1 : Int))))] [Blk.box [AV.t (T.lst 1 ec0_0 c0_0), AV.t (T.int IntKind.i64 c0_1), AV.t (T.bool c0_2), AV.t (T.int IntKind.i64 c0_3)], Blk.box [AV.t (T.bool c1_0), AV.t (T.str c1_1),
 AV.t (T.bool c1_2), AV.t (T.str c1_3)], Blk.box [B b, AV.t (T.str s), AV.t (T.bool b_5), AV.t (T.str s_5)]] else O K48n3 [I v1, AV.t (T.lst 2 ev2 v2), AV.ref (Id.c 0) 0, AV.ref (Id.c 1) 0, AV.ref (Id.c 2) 0, AV.t (T.lst 1
 ev14 v14), I v15, I (IntKind.i64.wrap (v16 + (1 : Int)))] [Blk.box [AV.t (T.lst 1 ec0_0 c0_0), I c0_1, B c0_2, I c0_3], Blk.box [B c1_0, AV.t (T.str c1_1), B c1_2, AV.t (T.str c1_3)], Blk.box [B c2_0, AV.t (T.str c2_1), B
 c2_2, AV.t (T.str c2_3)]] else gdK none (if (0 : Int) ≤ v1 ∧ v1 < (↑c0_0.length : Int) then some () else none) fun x => gdK none c0_0[v1.toNat]? fun l => gdK none l.head? fun x => gdK none (T.int? IntKind.i64 x) fun n =>
 gdK none (O (Key.call 20) [I n] []) fun l => gdK none l.head? fun x => gdK none x.bool? fun b => gdK none l.tail.head? fun x => gdK none x.str? fun s => gdK none l.tail.tail.head? fun x => gdK none x.bool? fun b_1 => gdK
 none l.tail.tail.tail.head? fun x => gdK none x.str? fun s_1 => gdK none (O (Key.call 23) [AV.agg [B c2_0, AV.t (T.str c2_1), B c2_2, AV.t (T.str c2_3)], AV.agg [B b, AV.t (T.str s), B b_1, AV.t (T.str s_1)]] []) fun l =>
 gdK none l.head? fun x => gdK none x.bool? fun b => gdK none l.tail.head? fun x => gdK none x.str? fun s => gdK none l.tail.tail.head? fun x => gdK none x.bool? fun b_2 => gdK none l.tail.tail.tail.head? fun x => gdK none
 x.str? fun s_2 => some [T.bool b, T.str s, T.bool b_2, T.str s_2]) := by kernel_rfl
theorem e97n3 (O : Orc) (v12 : Int) (v13 : Int) (c0_0 : Bool) (c0_1 : ByteArray) (ec1 : Bool) (c1 : List (List T)) : stepO PROG ann O K97n3 [(AV.ref (Id.c 0) 0), (AV.own (Id.c 1)), (I v12), (I v13)] [(Blk.box [(B c0_0), (AV.t (T.str c0_1))]), (Blk.sl false 1 ec1 c1)] =
  (bif decide (v13 < v12) then gdK none (inB (IntKind.i64.wrap ((4 : Int) * v13)) (↑c0_1.size : Int) (↑c0_1.size : Int)) fun x => gdK none (if (0 : Int) ≤ (0 : Int) ∧ (0 : Int) < (↑(c0_1.extract (IntKind.i64.wrap ((4 : Int)
 * v13)).toNat (↑c0_1.size : Int).toNat).size : Int) then some () else none) fun x => gdK none (#[].extract 0 0 ++ c0_1.data.extract (IntKind.i64.wrap ((4 : Int) * v13)).toNat ((IntKind.i64.wrap ((4 : Int) * v13)).toNat +
 ((↑c0_1.size : Int).toNat - (IntKind.i64.wrap ((4 : Int) * v13)).toNat)) ++ #[].extract (0 + min ((↑c0_1.size : Int).toNat - (IntKind.i64.wrap ((4 : Int) * v13)).toNat) (c0_1.data.size - (IntKind.i64.wrap ((4 : Int) *
 v13)).toNat)) 0).toList[0]? fun x => gdK none (if (0 : Int) ≤ (1 : Int) ∧ (1 : Int) < (↑(c0_1.extract (IntKind.i64.wrap ((4 : Int) * v13)).toNat (↑c0_1.size : Int).toNat).size : Int) then some () else none) fun x_1 => gdK
 none (#[].extract 0 0 ++ c0_1.data.extract (IntKind.i64.wrap ((4 : Int) * v13)).toNat ((IntKind.i64.wrap ((4 : Int) * v13)).toNat + ((↑c0_1.size : Int).toNat - (IntKind.i64.wrap ((4 : Int) * v13)).toNat)) ++ #[].extract
 (0 + min ((↑c0_1.size : Int).toNat - (IntKind.i64.wrap ((4 : Int) * v13)).toNat) (c0_1.data.size - (IntKind.i64.wrap ((4 : Int) * v13)).toNat)) 0).toList[1]? fun x_2 => gdK none (if (0 : Int) ≤ (2 : Int) ∧ (2 : Int) <
 (↑(c0_1.extract (IntKind.i64.wrap ((4 : Int) * v13)).toNat (↑c0_1.size : Int).toNat).size : Int) then some () else none) fun x_3 => gdK none (#[].extract 0 0 ++ c0_1.data.extract (IntKind.i64.wrap ((4 : Int) * v13)).toNat
 ((IntKind.i64.wrap ((4 : Int) * v13)).toNat + ((↑c0_1.size : Int).toNat - (IntKind.i64.wrap ((4 : Int) * v13)).toNat)) ++ #[].extract (0 + min ((↑c0_1.size : Int).toNat - (IntKind.i64.wrap ((4 : Int) * v13)).toNat)
 (c0_1.data.size - (IntKind.i64.wrap ((4 : Int) * v13)).toNat)) 0).toList[2]? fun x_4 => gdK none (if (0 : Int) ≤ (3 : Int) ∧ (3 : Int) < (↑(c0_1.extract (IntKind.i64.wrap ((4 : Int) * v13)).toNat (↑c0_1.size :
 Int).toNat).size : Int) then some () else none) fun x_5 => gdK none (#[].extract 0 0 ++ c0_1.data.extract (IntKind.i64.wrap ((4 : Int) * v13)).toNat ((IntKind.i64.wrap ((4 : Int) * v13)).toNat + ((↑c0_1.size : Int).toNat
 - (IntKind.i64.wrap ((4 : Int) * v13)).toNat)) ++ #[].extract (0 + min ((↑c0_1.size : Int).toNat - (IntKind.i64.wrap ((4 : Int) * v13)).toNat) (c0_1.data.size - (IntKind.i64.wrap ((4 : Int) * v13)).toNat)) 0).toList[3]?
 fun x_6 => gdK none (if (0 : Int) ≤ v13 ∧ v13 < (↑c1.length : Int) then some () else none) fun x_7 => gdK none (storeIn v13.toNat 0 [T.int IntKind.u32 (IntKind.u32.wrap (↑(BitVec.ofInt 32 (IntKind.u32.wrap (↑(BitVec.ofInt
 32 (IntKind.u32.wrap (↑(BitVec.ofInt 32 (IntKind.u32.wrap (↑x.toNat : Int)) ||| BitVec.ofInt 32 (IntKind.u32.wrap (IntKind.u32.wrap (↑x_2.toNat : Int) * (2 : Int) ^ 8))).toNat : Int)) ||| BitVec.ofInt 32 (IntKind.u32.wrap
 (IntKind.u32.wrap (↑x_4.toNat : Int) * (2 : Int) ^ 16))).toNat : Int)) ||| BitVec.ofInt 32 (IntKind.u32.wrap (IntKind.u32.wrap (↑x_6.toNat : Int) * (2 : Int) ^ 24))).toNat : Int))] c1) fun l => O K97n3 [AV.ref (Id.c 0) 0,
 AV.own (Id.c 1), I v12, I (IntKind.i64.wrap (v13 + (1 : Int)))] [Blk.box [B c0_0, AV.t (T.str c0_1)], Blk.sl false 1 ec1 l] else some [T.lst 1 ec1 c1]) := by kernel_rfl
theorem e112 (O : Orc) (ea0 : Bool) (a0 : List (List T)) : stepO PROG ann O (Key.call 112) [(AV.t (T.lst 1 ea0 a0))] [] =
  (O K112n1 [AV.t (T.lst 1 ea0 a0)] []) := by kernel_rfl
theorem e90n4 (O : Orc) (v0 : Bool) (ev1 : Bool) (v1 : List (List T)) (ev14 : Bool) (v14 : List (List T)) (v15 : Int) (v16 : Int) (c0_0 : Bool) (c0_1 : ByteArray) (ec1 : Bool) (c1 : List (List T)) : stepO PROG ann O K90n4 [(B v0), (AV.t (T.lst 1 ev1 v1)), (AV.ref (Id.c 0) 0), (AV.own (Id.c 1)), (AV.t (T.lst 1 ev14 v14)), (I v15), (I v16)] [(Blk.box [(B c0_0), (AV.t (T.str c0_1))]), (Blk.sl false 1 ec1 c1)] =
  (bif decide (v16 < v15) then gdK none (if (0 : Int) ≤ v16 ∧ v16 < (↑v14.length : Int) then some () else none) fun x => gdK none v14[v16.toNat]? fun l => gdK none l.head? fun x => gdK none (T.int? IntKind.u32 x) fun n =>
 gdK none (small 1 (c1.length + [[T.int IntKind.u8 (IntKind.u8.wrap n)], [T.int IntKind.u8 (IntKind.u8.wrap (n.fdiv ((2 : Int) ^ 8)))], [T.int IntKind.u8 (IntKind.u8.wrap (n.fdiv ((2 : Int) ^ 16)))], [T.int IntKind.u8
 (IntKind.u8.wrap (n.fdiv ((2 : Int) ^ 24)))]].length)) fun x => O K90n4 [B v0, AV.t (T.lst 1 ev1 v1), AV.ref (Id.c 0) 0, AV.own (Id.c 1), AV.t (T.lst 1 ev14 v14), I v15, I (IntKind.i64.wrap (v16 + (1 : Int)))] [Blk.box [B
 c0_0, AV.t (T.str c0_1)], Blk.sl false 1 (ec1 && false) (c1 ++ [[T.int IntKind.u8 (IntKind.u8.wrap n)], [T.int IntKind.u8 (IntKind.u8.wrap (n.fdiv ((2 : Int) ^ 8)))], [T.int IntKind.u8 (IntKind.u8.wrap (n.fdiv ((2 : Int)
 ^ 16)))], [T.int IntKind.u8 (IntKind.u8.wrap (n.fdiv ((2 : Int) ^ 24)))]])] else gdK none (bytesOf c1) fun l => some [T.bool (bif v0 then decide ((↑v1.length : Int) > (0 : Int)) else false), T.str { data := l.toArray }]) := by kernel_rfl
theorem e117 (O : Orc) (a0_0 : Bool) (a0_1 : ByteArray) : stepO PROG ann O (Key.call 117) [(AV.agg [(B a0_0), (AV.t (T.str a0_1))])] [] =
  (gdK none (O (Key.call 97) [AV.agg [B a0_0, AV.t (T.str a0_1)]] []) fun l => gdK none l.head? fun x => gdK none (T.lst? 1 x) fun p => bif (↑p.snd.length : Int) == (0 : Int) then some [T.int IntKind.i64 (0 : Int)] else gdK
 none (if (0 : Int) ≤ IntKind.i64.wrap ((↑p.snd.length : Int) - (1 : Int)) ∧ IntKind.i64.wrap ((↑p.snd.length : Int) - (1 : Int)) < (↑p.snd.length : Int) then some () else none) fun x => gdK none p.snd[(IntKind.i64.wrap
 ((↑p.snd.length : Int) - (1 : Int))).toNat]? fun l => gdK none l.head? fun x => gdK none (T.int? IntKind.u32 x) fun n => gdK none (O (Key.call 129) [AV.t (T.int IntKind.u32 n)] []) fun l => gdK none l.head? fun x => gdK
 none (T.int? IntKind.i64 x) fun n => some [T.int IntKind.i64 (IntKind.i64.wrap (IntKind.i64.wrap ((32 : Int) * IntKind.i64.wrap ((↑p.snd.length : Int) - (1 : Int))) + n))]) := by kernel_rfl
theorem e118 (O : Orc) (ea0 : Bool) (a0 : List (List T)) (ea1 : Bool) (a1 : List (List T)) : stepO PROG ann O (Key.call 118) [(AV.t (T.lst 1 ea0 a0)), (AV.t (T.lst 1 ea1 a1))] [] =
  (gdK none (mkOk (IntKind.i64.wrap ((↑a0.length : Int) + (↑a1.length : Int))) (IntKind.i64.wrap ((↑a0.length : Int) + (↑a1.length : Int)))) fun x => O K118n3 [AV.t (T.lst 1 ea1 a1), AV.own (Id.c 0), AV.t (T.lst 1 ea0 a0), I
 (↑a0.length : Int), I (0 : Int)] [Blk.sl false 1 false (List.replicate (IntKind.i64.wrap ((↑a0.length : Int) + (↑a1.length : Int))).toNat [T.int IntKind.u32 (0 : Int)])]) := by kernel_rfl
theorem e116 (O : Orc) (a0_0 : Bool) (a0_1 : ByteArray) : stepO PROG ann O (Key.call 116) [(AV.agg [(B a0_0), (AV.t (T.str a0_1))])] [] =
  (gdK none (O (Key.call 117) [AV.agg [B a0_0, AV.t (T.str a0_1)]] []) fun l => gdK none l.head? fun x => gdK none (T.int? IntKind.i64 x) fun n => bif decide (n > (131072 : Int)) then some [T.bool false, T.str (ByteArray.mk
 #[]), T.int IntKind.i64 (10 : Int)] else some [T.bool a0_0, T.str a0_1, T.int IntKind.i64 (0 : Int)]) := by kernel_rfl
theorem e114 (O : Orc) (a0_0 : Bool) (a0_1 : ByteArray) (a1_0 : Bool) (a1_1 : ByteArray) : stepO PROG ann O (Key.call 114) [(AV.agg [(B a0_0), (AV.t (T.str a0_1))]), (AV.agg [(B a1_0), (AV.t (T.str a1_1))])] [] =
  (gdK none (O (Key.call 97) [AV.agg [B a0_0, AV.t (T.str a0_1)]] []) fun l => gdK none l.head? fun x => gdK none (T.lst? 1 x) fun p => gdK none (O (Key.call 97) [AV.agg [B a1_0, AV.t (T.str a1_1)]] []) fun l => gdK none
 l.head? fun x => gdK none (T.lst? 1 x) fun p_1 => bif a0_0 == a1_0 then gdK none (O (Key.call 127) [AV.t (T.lst 1 p.fst p.snd), AV.t (T.lst 1 p_1.fst p_1.snd)] []) fun l => gdK none l.head? fun x => gdK none (T.lst? 1 x)
 fun p => gdK none (O (Key.call 90) [B a0_0, AV.t (T.lst 1 p.fst p.snd)] []) fun l => gdK none l.head? fun x => gdK none x.bool? fun b => gdK none l.tail.head? fun x => gdK none x.str? fun s => some [T.bool b, T.str s]
 else gdK none (O (Key.call 96) [AV.t (T.lst 1 p.fst p.snd), AV.t (T.lst 1 p_1.fst p_1.snd)] []) fun l => gdK none l.head? fun x => gdK none (T.int? IntKind.i64 x) fun n => bif decide (n ≥ (0 : Int)) then gdK none (O
 (Key.call 128) [AV.t (T.lst 1 p.fst p.snd), AV.t (T.lst 1 p_1.fst p_1.snd)] []) fun l => gdK none l.head? fun x => gdK none (T.lst? 1 x) fun p => gdK none (O (Key.call 90) [B a0_0, AV.t (T.lst 1 p.fst p.snd)] []) fun l =>
 gdK none l.head? fun x => gdK none x.bool? fun b => gdK none l.tail.head? fun x => gdK none x.str? fun s => some [T.bool b, T.str s] else gdK none (O (Key.call 128) [AV.t (T.lst 1 p_1.fst p_1.snd), AV.t (T.lst 1 p.fst
 p.snd)] []) fun l => gdK none l.head? fun x => gdK none (T.lst? 1 x) fun p => gdK none (O (Key.call 90) [B a1_0, AV.t (T.lst 1 p.fst p.snd)] []) fun l => gdK none l.head? fun x => gdK none x.bool? fun b => gdK none
 l.tail.head? fun x => gdK none x.str? fun s => some [T.bool b, T.str s]) := by kernel_rfl
theorem e92n2 (O : Orc) (ev5 : Bool) (v5 : List (List T)) (ev6 : Bool) (v6 : List (List T)) (c0_0 : Bool) (c0_1 : ByteArray) : stepO PROG ann O K92n2 [(AV.ref (Id.c 0) 0), (AV.t (T.lst 1 ev5 v5)), (AV.t (T.lst 1 ev6 v6))] [(Blk.box [(B c0_0), (AV.t (T.str c0_1))])] =
  (bif decide ((↑v6.length : Int) > (0 : Int)) then gdK none (O (Key.call 113) [AV.t (T.lst 1 ev5 v5), AV.t (T.lst 1 ev6 v6)] []) fun l => gdK none l.head? fun x => gdK none (T.lst? 1 x) fun p => gdK none l.tail.head? fun x
 => gdK none (T.lst? 1 x) fun p => gdK none (O (Key.call 112) [AV.t (T.lst 1 p.fst p.snd)] []) fun l => gdK none l.head? fun x => gdK none (T.lst? 1 x) fun p => O K92n2 [AV.ref (Id.c 0) 0, AV.t (T.lst 1 ev6 v6), AV.t
 (T.lst 1 p.fst p.snd)] [Blk.box [B c0_0, AV.t (T.str c0_1)]] else gdK none (O (Key.call 90) [B false, AV.t (T.lst 1 ev5 v5)] []) fun l => gdK none l.head? fun x => gdK none x.bool? fun b => gdK none l.tail.head? fun x =>
 gdK none x.str? fun s => some [T.bool b, T.str s]) := by kernel_rfl
theorem e96n6 (O : Orc) (ev0 : Bool) (v0 : List (List T)) (ev1 : Bool) (v1 : List (List T)) (v5 : Int) : stepO PROG ann O K96n6 [(AV.t (T.lst 1 ev0 v0)), (AV.t (T.lst 1 ev1 v1)), (I v5)] [] =
  (bif decide (v5 ≥ (0 : Int)) then gdK none (if (0 : Int) ≤ v5 ∧ v5 < (↑v0.length : Int) then some () else none) fun x => gdK none v0[v5.toNat]? fun l => gdK none l.head? fun x => gdK none (T.int? IntKind.u32 x) fun n =>
 gdK none (if (0 : Int) ≤ v5 ∧ v5 < (↑v1.length : Int) then some () else none) fun x => gdK none v1[v5.toNat]? fun l => gdK none l.head? fun x => gdK none (T.int? IntKind.u32 x) fun n_1 => bif decide (n < n_1) then some
 [T.int IntKind.i64 (-1 : Int)] else gdK none (if (0 : Int) ≤ v5 ∧ v5 < (↑v0.length : Int) then some () else none) fun x => gdK none v0[v5.toNat]? fun l => gdK none l.head? fun x => gdK none (T.int? IntKind.u32 x) fun n =>
 gdK none (if (0 : Int) ≤ v5 ∧ v5 < (↑v1.length : Int) then some () else none) fun x => gdK none v1[v5.toNat]? fun l => gdK none l.head? fun x => gdK none (T.int? IntKind.u32 x) fun n_2 => bif decide (n > n_2) then some
 [T.int IntKind.i64 (1 : Int)] else O K96n6 [AV.t (T.lst 1 ev0 v0), AV.t (T.lst 1 ev1 v1), I (IntKind.i64.wrap (v5 - (1 : Int)))] [] else some [T.int IntKind.i64 (0 : Int)]) := by kernel_rfl
theorem e88 (O : Orc) (a0_0 : Int) (a0_1 : Int) : stepO PROG ann O (Key.call 88) [(AV.agg [(I a0_0), (I a0_1)])] [] =
  (gdK none (O (Key.call 50) [I a0_0] []) fun l => gdK none l.head? fun x => gdK none x.bool? fun b => gdK none l.tail.head? fun x => gdK none x.str? fun s => gdK none (O (Key.call 50) [I a0_1] []) fun l => gdK none l.head?
 fun x => gdK none x.bool? fun b_1 => gdK none l.tail.head? fun x => gdK none x.str? fun s_1 => gdK none (O (Key.call 51) [AV.agg [B b, AV.t (T.str s)], AV.agg [B b_1, AV.t (T.str s_1)]] []) fun l => gdK none l.head? fun x
 => gdK none x.bool? fun b => gdK none l.tail.head? fun x => gdK none x.str? fun s => gdK none l.tail.tail.head? fun x => gdK none x.bool? fun b_2 => gdK none l.tail.tail.tail.head? fun x => gdK none x.str? fun s_2 => some
 [T.bool b, T.str s, T.bool b_2, T.str s_2]) := by kernel_rfl
theorem e87 (O : Orc) (a0_0 : Bool) (a0_1 : ByteArray) (a0_2 : Bool) (a0_3 : ByteArray) (a1_0 : Bool) (a1_1 : ByteArray) (a1_2 : Bool) (a1_3 : ByteArray) : stepO PROG ann O (Key.call 87) [(AV.agg [(B a0_0), (AV.t (T.str a0_1)), (B a0_2), (AV.t (T.str a0_3))]), (AV.agg [(B a1_0), (AV.t (T.str a1_1)), (B a1_2), (AV.t (T.str a1_3))])] [] =
  (gdK none (O (Key.call 53) [AV.agg [B a0_0, AV.t (T.str a0_1)], AV.agg [B a1_0, AV.t (T.str a1_1)]] []) fun l => gdK none l.head? fun x => gdK none x.bool? fun b => gdK none l.tail.head? fun x => gdK none x.str? fun s =>
 gdK none (O (Key.call 54) [AV.agg [B a0_0, AV.t (T.str a0_1), B a0_2, AV.t (T.str a0_3)]] []) fun l => gdK none l.head? fun x => gdK none x.bool? fun b_1 => gdK none l.tail.head? fun x => gdK none x.str? fun s_1 => gdK
 none (O (Key.call 54) [AV.agg [B a1_0, AV.t (T.str a1_1), B a1_2, AV.t (T.str a1_3)]] []) fun l => gdK none l.head? fun x => gdK none x.bool? fun b_2 => gdK none l.tail.head? fun x => gdK none x.str? fun s_2 => gdK none
 (O (Key.call 53) [AV.agg [B b_1, AV.t (T.str s_1)], AV.agg [B b_2, AV.t (T.str s_2)]] []) fun l => gdK none l.head? fun x => gdK none x.bool? fun b_3 => gdK none l.tail.head? fun x => gdK none x.str? fun s_3 => gdK none
 (O (Key.call 51) [AV.agg [B b, AV.t (T.str s)], AV.agg [B b_3, AV.t (T.str s_3)]] []) fun l => gdK none l.head? fun x => gdK none x.bool? fun b => gdK none l.tail.head? fun x => gdK none x.str? fun s => gdK none
 l.tail.tail.head? fun x => gdK none x.bool? fun b_4 => gdK none l.tail.tail.tail.head? fun x => gdK none x.str? fun s_4 => some [T.bool b, T.str s, T.bool b_4, T.str s_4]) := by kernel_rfl
theorem e112n1 (O : Orc) (ev0 : Bool) (v0 : List (List T)) : stepO PROG ann O K112n1 [(AV.t (T.lst 1 ev0 v0))] [] =
  (gdK (some (decide ((↑v0.length : Int) > (0 : Int)))) (if (0 : Int) ≤ IntKind.i64.wrap ((↑v0.length : Int) - (1 : Int)) ∧ IntKind.i64.wrap ((↑v0.length : Int) - (1 : Int)) < (↑v0.length : Int) then some () else none) fun x
 => gdK (some (decide ((↑v0.length : Int) > (0 : Int)))) v0[(IntKind.i64.wrap ((↑v0.length : Int) - (1 : Int))).toNat]? fun l => gdK (some (decide ((↑v0.length : Int) > (0 : Int)))) l.head? fun x => gdK (some (decide
 ((↑v0.length : Int) > (0 : Int)))) (T.int? IntKind.u32 x) fun n => bif bif decide ((↑v0.length : Int) > (0 : Int)) then n == (0 : Int) else false then gdK none (inB (0 : Int) (IntKind.i64.wrap ((↑v0.length : Int) - (1 :
 Int))) (↑v0.length : Int)) fun x => O K112n1 [AV.t (T.lst 1 ev0 (sub (0 : Int) (IntKind.i64.wrap ((↑v0.length : Int) - (1 : Int))) v0))] [] else some [T.lst 1 ev0 v0]) := by kernel_rfl
def L8 : List UInt8 := [0, 1, 2, 2, 3, 3, 3, 3, 4, 4, 4, 4, 4, 4, 4, 4, 5, 5, 5, 5, 5, 5, 5, 5, 5, 5, 5, 5, 5, 5, 5, 5, 6, 6, 6, 6, 6, 6, 6, 6, 6, 6, 6, 6, 6, 6, 6, 6, 6, 6, 6, 6, 6, 6, 6, 6, 6, 6, 6, 6, 6, 6, 6, 6, 7, 7, 7, 7, 7, 7, 7, 7, 7, 7, 7, 7, 7, 7, 7, 7, 7, 7, 7, 7, 7, 7, 7, 7, 7, 7, 7, 7, 7, 7, 7, 7, 7, 7, 7, 7, 7, 7, 7, 7, 7, 7, 7, 7, 7, 7, 7, 7, 7, 7, 7, 7, 7, 7, 7, 7, 7, 7, 7, 7, 7, 7, 7, 7, 8, 8, 8, 8, 8, 8, 8, 8, 8, 8, 8, 8, 8, 8, 8, 8, 8, 8, 8, 8, 8, 8, 8, 8, 8, 8, 8, 8, 8, 8, 8, 8, 8, 8, 8, 8, 8, 8, 8, 8, 8, 8, 8, 8, 8, 8, 8, 8, 8, 8, 8, 8, 8, 8, 8, 8, 8, 8, 8, 8, 8, 8, 8, 8, 8, 8, 8, 8, 8, 8, 8, 8, 8, 8, 8, 8, 8, 8, 8, 8, 8, 8, 8, 8, 8, 8, 8, 8, 8, 8, 8, 8, 8, 8, 8, 8, 8, 8, 8, 8, 8, 8, 8, 8, 8, 8, 8, 8, 8, 8, 8, 8, 8, 8, 8, 8, 8, 8, 8, 8, 8, 8, 8, 8, 8, 8, 8, 8]
theorem e129 (O : Orc) (a0 : Int) : stepO PROG ann O (Key.call 129) [(AV.t (T.int IntKind.u32 a0))] [] =
  (bif decide (a0 ≥ (65536 : Int)) then bif decide (a0.fdiv ((2 : Int) ^ 16) ≥ (256 : Int)) then gdK none (if (0 : Int) ≤ IntKind.u8.wrap ((a0.fdiv ((2 : Int) ^ 16)).fdiv ((2 : Int) ^ 8)) ∧ IntKind.u8.wrap ((a0.fdiv ((2 :
 Int) ^ 16)).fdiv ((2 : Int) ^ 8)) < (↑256 : Int) then some () else none) fun x => gdK none L8[(IntKind.u8.wrap ((a0.fdiv ((2 : Int) ^ 16)).fdiv ((2 : Int) ^ 8))).toNat]? fun x => some [T.int IntKind.i64 (IntKind.i64.wrap
 (IntKind.i64.wrap ((16 : Int) + (8 : Int)) + IntKind.i64.wrap (↑x.toNat : Int)))] else gdK none (if (0 : Int) ≤ IntKind.u8.wrap (a0.fdiv ((2 : Int) ^ 16)) ∧ IntKind.u8.wrap (a0.fdiv ((2 : Int) ^ 16)) < (↑256 : Int) then
 some () else none) fun x => gdK none L8[(IntKind.u8.wrap (a0.fdiv ((2 : Int) ^ 16))).toNat]? fun x => some [T.int IntKind.i64 (IntKind.i64.wrap ((16 : Int) + IntKind.i64.wrap (↑x.toNat : Int)))] else bif decide (a0 ≥ (256
 : Int)) then gdK none (if (0 : Int) ≤ IntKind.u8.wrap (a0.fdiv ((2 : Int) ^ 8)) ∧ IntKind.u8.wrap (a0.fdiv ((2 : Int) ^ 8)) < (↑256 : Int) then some () else none) fun x => gdK none L8[(IntKind.u8.wrap (a0.fdiv ((2 : Int)
 ^ 8))).toNat]? fun x => some [T.int IntKind.i64 (IntKind.i64.wrap (IntKind.i64.wrap ((0 : Int) + (8 : Int)) + IntKind.i64.wrap (↑x.toNat : Int)))] else gdK none (if (0 : Int) ≤ IntKind.u8.wrap a0 ∧ IntKind.u8.wrap a0 <
 (↑256 : Int) then some () else none) fun x => gdK none L8[(IntKind.u8.wrap a0).toNat]? fun x => some [T.int IntKind.i64 (IntKind.i64.wrap ((0 : Int) + IntKind.i64.wrap (↑x.toNat : Int)))]) := by kernel_rfl
theorem e118n3 (O : Orc) (ev1 : Bool) (v1 : List (List T)) (ev17 : Bool) (v17 : List (List T)) (v18 : Int) (v19 : Int) (ec0 : Bool) (c0 : List (List T)) : stepO PROG ann O K118n3 [(AV.t (T.lst 1 ev1 v1)), (AV.own (Id.c 0)), (AV.t (T.lst 1 ev17 v17)), (I v18), (I v19)] [(Blk.sl false 1 ec0 c0)] =
  (bif decide (v19 < v18) then gdK none (if (0 : Int) ≤ v19 ∧ v19 < (↑v17.length : Int) then some () else none) fun x => gdK none v17[v19.toNat]? fun l => gdK none l.head? fun x => gdK none (T.int? IntKind.u32 x) fun n => O
 K118n7 [AV.t (T.lst 1 ev1 v1), AV.own (Id.c 0), I v19, AV.t (T.int IntKind.u32 n), AV.t (T.int IntKind.u64 (0 : Int)), AV.t (T.lst 1 ev17 v17), I v18, I v19, AV.t (T.lst 1 ev1 v1), I (↑v1.length : Int), I (0 : Int)]
 [Blk.sl false 1 ec0 c0] else some [T.lst 1 ec0 c0]) := by kernel_rfl
theorem e127 (O : Orc) (ea0 : Bool) (a0 : List (List T)) (ea1 : Bool) (a1 : List (List T)) : stepO PROG ann O (Key.call 127) [(AV.t (T.lst 1 ea0 a0)), (AV.t (T.lst 1 ea1 a1))] [] =
  (bif decide ((↑a0.length : Int) < (↑a1.length : Int)) then gdK none (mkOk (0 : Int) (IntKind.i64.wrap ((↑a1.length : Int) + (1 : Int)))) fun x => O K127n6 [AV.t (T.lst 1 ea0 a0), AV.own (Id.c 0), AV.t (T.int IntKind.u64 (0
 : Int)), AV.t (T.lst 1 ea1 a1), I (↑a1.length : Int), I (0 : Int)] [Blk.sl false 1 false []] else gdK none (mkOk (0 : Int) (IntKind.i64.wrap ((↑a0.length : Int) + (1 : Int)))) fun x => O K127n6 [AV.t (T.lst 1 ea1 a1),
 AV.own (Id.c 0), AV.t (T.int IntKind.u64 (0 : Int)), AV.t (T.lst 1 ea0 a0), I (↑a0.length : Int), I (0 : Int)] [Blk.sl false 1 false []]) := by kernel_rfl
theorem e128 (O : Orc) (ea0 : Bool) (a0 : List (List T)) (ea1 : Bool) (a1 : List (List T)) : stepO PROG ann O (Key.call 128) [(AV.t (T.lst 1 ea0 a0)), (AV.t (T.lst 1 ea1 a1))] [] =
  (gdK none (mkOk (0 : Int) (↑a0.length : Int)) fun x => O K128n4 [AV.t (T.lst 1 ea1 a1), AV.own (Id.c 0), I (0 : Int), AV.t (T.lst 1 ea0 a0), I (↑a0.length : Int), I (0 : Int)] [Blk.sl false 1 false []]) := by kernel_rfl
theorem e118n7 (O : Orc) (ev1 : Bool) (v1 : List (List T)) (v6 : Int) (v7 : Int) (v8 : Int) (ev17 : Bool) (v17 : List (List T)) (v18 : Int) (v19 : Int) (ev24 : Bool) (v24 : List (List T)) (v25 : Int) (v26 : Int) (ec0 : Bool) (c0 : List (List T)) : stepO PROG ann O K118n7 [(AV.t (T.lst 1 ev1 v1)), (AV.own (Id.c 0)), (I v6), (AV.t (T.int IntKind.u32 v7)), (AV.t (T.int IntKind.u64 v8)), (AV.t (T.lst 1 ev17 v17)), (I v18), (I v19), (AV.t (T.lst 1 ev24 v24)), (I v25), (I v26)] [(Blk.sl false 1 ec0 c0)] =
  (bif decide (v26 < v25) then gdK none (if (0 : Int) ≤ v26 ∧ v26 < (↑v24.length : Int) then some () else none) fun x => gdK none v24[v26.toNat]? fun l => gdK none l.head? fun x => gdK none (T.int? IntKind.u32 x) fun n =>
 gdK none (if (0 : Int) ≤ IntKind.i64.wrap (v6 + v26) ∧ IntKind.i64.wrap (v6 + v26) < (↑c0.length : Int) then some () else none) fun x => gdK none c0[(IntKind.i64.wrap (v6 + v26)).toNat]? fun l => gdK none l.head? fun x =>
 gdK none (T.int? IntKind.u32 x) fun n_1 => gdK none (if (0 : Int) ≤ IntKind.i64.wrap (v6 + v26) ∧ IntKind.i64.wrap (v6 + v26) < (↑c0.length : Int) then some () else none) fun x => gdK none (storeIn (IntKind.i64.wrap (v6 +
 v26)).toNat 0 [T.int IntKind.u32 (IntKind.u32.wrap (IntKind.u64.wrap (v8 + IntKind.u64.wrap (IntKind.u64.wrap (IntKind.u64.wrap v7 * IntKind.u64.wrap n) + IntKind.u64.wrap n_1))))] c0) fun l => O K118n7 [AV.t (T.lst 1 ev1
 v1), AV.own (Id.c 0), I v6, AV.t (T.int IntKind.u32 v7), AV.t (T.int IntKind.u64 ((IntKind.u64.wrap (v8 + IntKind.u64.wrap (IntKind.u64.wrap (IntKind.u64.wrap v7 * IntKind.u64.wrap n) + IntKind.u64.wrap n_1))).fdiv ((2 :
 Int) ^ 32))), AV.t (T.lst 1 ev17 v17), I v18, I v19, AV.t (T.lst 1 ev24 v24), I v25, I (IntKind.i64.wrap (v26 + (1 : Int)))] [Blk.sl false 1 ec0 l] else gdK none (if (0 : Int) ≤ IntKind.i64.wrap (v6 + (↑v1.length : Int))
 ∧ IntKind.i64.wrap (v6 + (↑v1.length : Int)) < (↑c0.length : Int) then some () else none) fun x => gdK none (storeIn (IntKind.i64.wrap (v6 + (↑v1.length : Int))).toNat 0 [T.int IntKind.u32 (IntKind.u32.wrap v8)] c0) fun l
 => O K118n3 [AV.t (T.lst 1 ev1 v1), AV.own (Id.c 0), AV.t (T.lst 1 ev17 v17), I v18, I (IntKind.i64.wrap (v19 + (1 : Int)))] [Blk.sl false 1 ec0 l]) := by kernel_rfl
theorem e127n6 (O : Orc) (ev1 : Bool) (v1 : List (List T)) (v6 : Int) (ev20 : Bool) (v20 : List (List T)) (v21 : Int) (v22 : Int) (ec0 : Bool) (c0 : List (List T)) : stepO PROG ann O K127n6 [(AV.t (T.lst 1 ev1 v1)), (AV.own (Id.c 0)), (AV.t (T.int IntKind.u64 v6)), (AV.t (T.lst 1 ev20 v20)), (I v21), (I v22)] [(Blk.sl false 1 ec0 c0)] =
  (bif decide (v22 < v21) then gdK none (if (0 : Int) ≤ v22 ∧ v22 < (↑v20.length : Int) then some () else none) fun x => gdK none v20[v22.toNat]? fun l => gdK none l.head? fun x => gdK none (T.int? IntKind.u32 x) fun n =>
 bif decide (v22 < (↑v1.length : Int)) then gdK none (if (0 : Int) ≤ v22 ∧ v22 < (↑v1.length : Int) then some () else none) fun x => gdK none v1[v22.toNat]? fun l => gdK none l.head? fun x => gdK none (T.int? IntKind.u32
 x) fun n_1 => gdK none (small 4 (c0.length + [[T.int IntKind.u32 (IntKind.u32.wrap (IntKind.u64.wrap (IntKind.u64.wrap (v6 + IntKind.u64.wrap n) + IntKind.u64.wrap n_1)))]].length)) fun x => O K127n6 [AV.t (T.lst 1 ev1
 v1), AV.own (Id.c 0), AV.t (T.int IntKind.u64 ((IntKind.u64.wrap (IntKind.u64.wrap (v6 + IntKind.u64.wrap n) + IntKind.u64.wrap n_1)).fdiv ((2 : Int) ^ 32))), AV.t (T.lst 1 ev20 v20), I v21, I (IntKind.i64.wrap (v22 + (1
 : Int)))] [Blk.sl false 1 (ec0 && false) (c0 ++ [[T.int IntKind.u32 (IntKind.u32.wrap (IntKind.u64.wrap (IntKind.u64.wrap (v6 + IntKind.u64.wrap n) + IntKind.u64.wrap n_1)))]])] else gdK none (small 4 (c0.length + [[T.int
 IntKind.u32 (IntKind.u32.wrap (IntKind.u64.wrap (v6 + IntKind.u64.wrap n)))]].length)) fun x => O K127n6 [AV.t (T.lst 1 ev1 v1), AV.own (Id.c 0), AV.t (T.int IntKind.u64 ((IntKind.u64.wrap (v6 + IntKind.u64.wrap n)).fdiv
 ((2 : Int) ^ 32))), AV.t (T.lst 1 ev20 v20), I v21, I (IntKind.i64.wrap (v22 + (1 : Int)))] [Blk.sl false 1 (ec0 && false) (c0 ++ [[T.int IntKind.u32 (IntKind.u32.wrap (IntKind.u64.wrap (v6 + IntKind.u64.wrap n)))]])]
 else gdK none (small 4 (c0.length + [[T.int IntKind.u32 (IntKind.u32.wrap v6)]].length)) fun x => some [T.lst 1 (ec0 && false) (c0 ++ [[T.int IntKind.u32 (IntKind.u32.wrap v6)]])]) := by kernel_rfl
theorem e128n4 (O : Orc) (ev1 : Bool) (v1 : List (List T)) (v6 : Int) (ev13 : Bool) (v13 : List (List T)) (v14 : Int) (v15 : Int) (ec0 : Bool) (c0 : List (List T)) : stepO PROG ann O K128n4 [(AV.t (T.lst 1 ev1 v1)), (AV.own (Id.c 0)), (I v6), (AV.t (T.lst 1 ev13 v13)), (I v14), (I v15)] [(Blk.sl false 1 ec0 c0)] =
  (bif decide (v15 < v14) then gdK none (if (0 : Int) ≤ v15 ∧ v15 < (↑v13.length : Int) then some () else none) fun x => gdK none v13[v15.toNat]? fun l => gdK none l.head? fun x => gdK none (T.int? IntKind.u32 x) fun n =>
 bif decide (v15 < (↑v1.length : Int)) then gdK none (if (0 : Int) ≤ v15 ∧ v15 < (↑v1.length : Int) then some () else none) fun x => gdK none v1[v15.toNat]? fun l => gdK none l.head? fun x => gdK none (T.int? IntKind.u32
 x) fun n_1 => bif decide (IntKind.i64.wrap (IntKind.i64.wrap (IntKind.i64.wrap n - v6) - IntKind.i64.wrap n_1) < (0 : Int)) then gdK none (small 4 (c0.length + [[T.int IntKind.u32 (IntKind.u32.wrap (IntKind.i64.wrap
 (IntKind.i64.wrap (IntKind.i64.wrap (IntKind.i64.wrap n - v6) - IntKind.i64.wrap n_1) + (4294967296 : Int))))]].length)) fun x => O K128n4 [AV.t (T.lst 1 ev1 v1), AV.own (Id.c 0), I (1 : Int), AV.t (T.lst 1 ev13 v13), I
 v14, I (IntKind.i64.wrap (v15 + (1 : Int)))] [Blk.sl false 1 (ec0 && false) (c0 ++ [[T.int IntKind.u32 (IntKind.u32.wrap (IntKind.i64.wrap (IntKind.i64.wrap (IntKind.i64.wrap (IntKind.i64.wrap n - v6) - IntKind.i64.wrap
 n_1) + (4294967296 : Int))))]])] else gdK none (small 4 (c0.length + [[T.int IntKind.u32 (IntKind.u32.wrap (IntKind.i64.wrap (IntKind.i64.wrap (IntKind.i64.wrap n - v6) - IntKind.i64.wrap n_1)))]].length)) fun x => O
 K128n4 [AV.t (T.lst 1 ev1 v1), AV.own (Id.c 0), I (0 : Int), AV.t (T.lst 1 ev13 v13), I v14, I (IntKind.i64.wrap (v15 + (1 : Int)))] [Blk.sl false 1 (ec0 && false) (c0 ++ [[T.int IntKind.u32 (IntKind.u32.wrap
 (IntKind.i64.wrap (IntKind.i64.wrap (IntKind.i64.wrap n - v6) - IntKind.i64.wrap n_1)))]])] else bif decide (IntKind.i64.wrap (IntKind.i64.wrap n - v6) < (0 : Int)) then gdK none (small 4 (c0.length + [[T.int IntKind.u32
 (IntKind.u32.wrap (IntKind.i64.wrap (IntKind.i64.wrap (IntKind.i64.wrap n - v6) + (4294967296 : Int))))]].length)) fun x => O K128n4 [AV.t (T.lst 1 ev1 v1), AV.own (Id.c 0), I (1 : Int), AV.t (T.lst 1 ev13 v13), I v14, I
 (IntKind.i64.wrap (v15 + (1 : Int)))] [Blk.sl false 1 (ec0 && false) (c0 ++ [[T.int IntKind.u32 (IntKind.u32.wrap (IntKind.i64.wrap (IntKind.i64.wrap (IntKind.i64.wrap n - v6) + (4294967296 : Int))))]])] else gdK none
 (small 4 (c0.length + [[T.int IntKind.u32 (IntKind.u32.wrap (IntKind.i64.wrap (IntKind.i64.wrap n - v6)))]].length)) fun x => O K128n4 [AV.t (T.lst 1 ev1 v1), AV.own (Id.c 0), I (0 : Int), AV.t (T.lst 1 ev13 v13), I v14,
 I (IntKind.i64.wrap (v15 + (1 : Int)))] [Blk.sl false 1 (ec0 && false) (c0 ++ [[T.int IntKind.u32 (IntKind.u32.wrap (IntKind.i64.wrap (IntKind.i64.wrap n - v6)))]])] else some [T.lst 1 ec0 c0]) := by kernel_rfl
theorem e113 (O : Orc) (ex : Bool) (x : List (List T)) (ey : Bool) (y : List (List T)) : stepO PROG ann O (Key.call 113) [AV.t (T.lst 1 ex x), AV.t (T.lst 1 ey y)] [] =
  (gdK none (O (Key.call 112) [AV.t (T.lst 1 ex x)] []) fun l => gdK none l.head? fun x => gdK none (T.lst? 1 x) fun p => gdK none (O (Key.call 112) [AV.t (T.lst 1 ey y)] []) fun l => gdK none l.head? fun x => gdK none
 (T.lst? 1 x) fun p_1 => gdK none (O (Key.call 96) [AV.t (T.lst 1 p.fst p.snd), AV.t (T.lst 1 p_1.fst p_1.snd)] []) fun l => gdK none l.head? fun x => gdK none (T.int? IntKind.i64 x) fun n => bif decide (n < (0 : Int))
 then some [T.emp true, T.lst 1 p.fst p.snd] else bif (↑p_1.snd.length : Int) == (1 : Int) then gdK none (if (0 : Int) ≤ (0 : Int) ∧ (0 : Int) < (↑p_1.snd.length : Int) then some () else none) fun x => gdK none p_1.snd[0]?
 fun l => gdK none l.head? fun x => gdK none (T.int? IntKind.u32 x) fun n => gdK none (O (Key.call 122) [AV.t (T.lst 1 p.fst p.snd), AV.t (T.int IntKind.u32 n)] []) fun l => gdK none l.head? fun x => gdK none (T.lst? 1 x)
 fun p => gdK none l.tail.head? fun x => gdK none (T.int? IntKind.u32 x) fun n => some [T.lst 1 p.fst p.snd, T.lst 1 false [[T.int IntKind.u32 n]]] else gdK none (if (0 : Int) ≤ IntKind.i64.wrap ((↑p_1.snd.length : Int) -
 (1 : Int)) ∧ IntKind.i64.wrap ((↑p_1.snd.length : Int) - (1 : Int)) < (↑p_1.snd.length : Int) then some () else none) fun x => gdK none p_1.snd[(IntKind.i64.wrap ((↑p_1.snd.length : Int) - (1 : Int))).toNat]? fun l => gdK
 none l.head? fun x => gdK none (T.int? IntKind.u32 x) fun n => gdK none (O (Key.call 123) [AV.t (T.int IntKind.u32 n)] []) fun l => gdK none l.head? fun x => gdK none (T.int? IntKind.i64 x) fun n => gdK none (O (Key.call
 124) [AV.t (T.lst 1 p_1.fst p_1.snd), I n] []) fun l => gdK none l.head? fun x => gdK none (T.lst? 1 x) fun p_2 => gdK none (O (Key.call 112) [AV.t (T.lst 1 p_2.fst p_2.snd)] []) fun l => gdK none l.head? fun x => gdK
 none (T.lst? 1 x) fun p_3 => gdK none (O (Key.call 124) [AV.t (T.lst 1 p.fst p.snd), I n] []) fun l => gdK none l.head? fun x => gdK none (T.lst? 1 x) fun p_4 => O K113n10 [AV.t (T.lst 1 p.fst p.snd), I n, AV.t (T.lst 1
 p_3.fst p_3.snd), AV.own (Id.c 0)] [Blk.sl false 1 p_4.fst p_4.snd]) := by kernel_rfl
theorem e113n10 (O : Orc) (ev0 : Bool) (v0 : List (List T)) (v8 : Int) (ev9 : Bool) (v9 : List (List T)) (ec0 : Bool) (c0 : List (List T)) : stepO PROG ann O K113n10 [(AV.t (T.lst 1 ev0 v0)), (I v8), (AV.t (T.lst 1 ev9 v9)), (AV.own (Id.c 0))] [(Blk.sl false 1 ec0 c0)] =
  (bif decide ((↑c0.length : Int) < IntKind.i64.wrap ((↑v0.length : Int) + (1 : Int))) then gdK none (small 4 (c0.length + 1)) fun x => O K113n10 [AV.t (T.lst 1 ev0 v0), I v8, AV.t (T.lst 1 ev9 v9), AV.own (Id.c 0)] [Blk.sl
 false 1 (ec0 && false) (c0 ++ [[T.int IntKind.u32 (0 : Int)]])] else gdK none (mkOk (IntKind.i64.wrap ((↑c0.length : Int) - (↑v9.length : Int))) (IntKind.i64.wrap ((↑c0.length : Int) - (↑v9.length : Int)))) fun x => O
 K113n15 [I v8, AV.t (T.lst 1 ev9 v9), AV.own (Id.c 0), I (↑v9.length : Int), AV.own (Id.c 1), AV.t (T.int IntKind.i64 (IntKind.i64.wrap (IntKind.i64.wrap ((↑c0.length : Int) - (↑v9.length : Int)) - (1 : Int))))] [Blk.sl
 false 1 ec0 c0, Blk.sl false 1 false (List.replicate (IntKind.i64.wrap ((↑c0.length : Int) - (↑v9.length : Int))).toNat [T.int IntKind.u32 (0 : Int)])]) := by kernel_rfl
theorem e113n15 (O : Orc) (v8 : Int) (ev9 : Bool) (v9 : List (List T)) (v11 : Int) (v13 : Int) (ec0 : Bool) (c0 : List (List T)) (ec1 : Bool) (c1 : List (List T)) : stepO PROG ann O K113n15 [(I v8), (AV.t (T.lst 1 ev9 v9)), (AV.own (Id.c 0)), (I v11), (AV.own (Id.c 1)), (I v13)] [(Blk.sl false 1 ec0 c0), (Blk.sl false 1 ec1 c1)] =
  (bif decide (v13 ≥ (0 : Int)) then gdK none (if (0 : Int) ≤ IntKind.i64.wrap (v13 + v11) ∧ IntKind.i64.wrap (v13 + v11) < (↑c0.length : Int) then some () else none) fun x => gdK none c0[(IntKind.i64.wrap (v13 +
 v11)).toNat]? fun l => gdK none l.head? fun x => gdK none (T.int? IntKind.u32 x) fun n => gdK none (if (0 : Int) ≤ IntKind.i64.wrap (IntKind.i64.wrap (v13 + v11) - (1 : Int)) ∧ IntKind.i64.wrap (IntKind.i64.wrap (v13 +
 v11) - (1 : Int)) < (↑c0.length : Int) then some () else none) fun x => gdK none c0[(IntKind.i64.wrap (IntKind.i64.wrap (v13 + v11) - (1 : Int))).toNat]? fun l => gdK none l.head? fun x => gdK none (T.int? IntKind.u32 x)
 fun n_1 => gdK none (if (0 : Int) ≤ IntKind.i64.wrap (v11 - (1 : Int)) ∧ IntKind.i64.wrap (v11 - (1 : Int)) < (↑v9.length : Int) then some () else none) fun x => gdK none v9[(IntKind.i64.wrap (v11 - (1 : Int))).toNat]?
 fun l => gdK none l.head? fun x => gdK none (T.int? IntKind.u32 x) fun n_2 => gdK none (if IntKind.u64.wrap n_2 = (0 : Int) then none else some ()) fun x => gdK none (if (0 : Int) ≤ IntKind.i64.wrap (v11 - (1 : Int)) ∧
 IntKind.i64.wrap (v11 - (1 : Int)) < (↑v9.length : Int) then some () else none) fun x => gdK none v9[(IntKind.i64.wrap (v11 - (1 : Int))).toNat]? fun l => gdK none l.head? fun x => gdK none (T.int? IntKind.u32 x) fun n_3
 => gdK none (if IntKind.u64.wrap n_3 = (0 : Int) then none else some ()) fun x => O K113n19 [I v8, AV.t (T.lst 1 ev9 v9), AV.own (Id.c 0), I v11, AV.own (Id.c 1), I v13, AV.t (T.int IntKind.u64 (IntKind.u64.wrap
 ((IntKind.u64.wrap (↑(BitVec.ofInt 64 (IntKind.u64.wrap (IntKind.u64.wrap n * (2 : Int) ^ 32)) ||| BitVec.ofInt 64 (IntKind.u64.wrap n_1)).toNat : Int)).tdiv (IntKind.u64.wrap n_2)))), AV.t (T.int IntKind.u64
 ((IntKind.u64.wrap (↑(BitVec.ofInt 64 (IntKind.u64.wrap (IntKind.u64.wrap n * (2 : Int) ^ 32)) ||| BitVec.ofInt 64 (IntKind.u64.wrap n_1)).toNat : Int)).tmod (IntKind.u64.wrap n_3)))] [Blk.sl false 1 ec0 c0, Blk.sl false
 1 ec1 c1] else gdK none (inB (0 : Int) v11 (↑c0.length : Int)) fun x => gdK none (O (Key.call 126) [AV.t (T.lst 1 ec0 (List.take (v11.toNat - 0) c0)), I v8] []) fun l => gdK none l.head? fun x => gdK none (T.lst? 1 x) fun
 p => gdK none l.tail.head? fun x => gdK none x.bool? fun b => some [T.lst 1 ec1 c1, T.lst 1 p.fst p.snd]) := by kernel_rfl
theorem e113n19 (O : Orc) (v8 : Int) (ev9 : Bool) (v9 : List (List T)) (v11 : Int) (v13 : Int) (v15 : Int) (v16 : Int) (ec0 : Bool) (c0 : List (List T)) (ec1 : Bool) (c1 : List (List T)) : stepO PROG ann O K113n19 [(I v8), (AV.t (T.lst 1 ev9 v9)), (AV.own (Id.c 0)), (I v11), (AV.own (Id.c 1)), (I v13), (AV.t (T.int IntKind.u64 v15)), (AV.t (T.int IntKind.u64 v16))] [(Blk.sl false 1 ec0 c0), (Blk.sl false 1 ec1 c1)] =
  (gdK (some !decide (v15 ≥ (4294967296 : Int))) (if (0 : Int) ≤ IntKind.i64.wrap (v11 - (2 : Int)) ∧ IntKind.i64.wrap (v11 - (2 : Int)) < (↑v9.length : Int) then some () else none) fun x => gdK (some !decide (v15 ≥
 (4294967296 : Int))) v9[(IntKind.i64.wrap (v11 - (2 : Int))).toNat]? fun l => gdK (some !decide (v15 ≥ (4294967296 : Int))) l.head? fun x => gdK (some !decide (v15 ≥ (4294967296 : Int))) (T.int? IntKind.u32 x) fun n =>
 gdK (some !decide (v15 ≥ (4294967296 : Int))) (if (0 : Int) ≤ IntKind.i64.wrap (IntKind.i64.wrap (v13 + v11) - (2 : Int)) ∧ IntKind.i64.wrap (IntKind.i64.wrap (v13 + v11) - (2 : Int)) < (↑c0.length : Int) then some ()
 else none) fun x => gdK (some !decide (v15 ≥ (4294967296 : Int))) c0[(IntKind.i64.wrap (IntKind.i64.wrap (v13 + v11) - (2 : Int))).toNat]? fun l => gdK (some !decide (v15 ≥ (4294967296 : Int))) l.head? fun x => gdK (some
 !decide (v15 ≥ (4294967296 : Int))) (T.int? IntKind.u32 x) fun n_1 => bif bif decide (v15 ≥ (4294967296 : Int)) then true else decide (IntKind.u64.wrap (v15 * IntKind.u64.wrap n) > IntKind.u64.wrap (↑(BitVec.ofInt 64
 (IntKind.u64.wrap (v16 * (2 : Int) ^ 32)) ||| BitVec.ofInt 64 (IntKind.u64.wrap n_1)).toNat : Int)) then gdK none (if (0 : Int) ≤ IntKind.i64.wrap (v11 - (1 : Int)) ∧ IntKind.i64.wrap (v11 - (1 : Int)) < (↑v9.length :
 Int) then some () else none) fun x => gdK none v9[(IntKind.i64.wrap (v11 - (1 : Int))).toNat]? fun l => gdK none l.head? fun x => gdK none (T.int? IntKind.u32 x) fun n => bif decide (IntKind.u64.wrap (v16 +
 IntKind.u64.wrap n) ≥ (4294967296 : Int)) then gdK none (inB v13 (IntKind.i64.wrap (IntKind.i64.wrap (v13 + v11) + (1 : Int))) (↑c0.length : Int)) fun x => gdK none (O (Key.call 125) [AV.part (Id.c 0) 1 v13.toNat
 ((IntKind.i64.wrap (IntKind.i64.wrap (v13 + v11) + (1 : Int))).toNat - v13.toNat), AV.t (T.lst 1 ev9 v9), AV.t (T.int IntKind.u64 (IntKind.u64.wrap (v15 - (1 : Int))))] [Blk.sl false 1 ec0 c0]) fun l => gdK none l.head?
 fun x => gdK none x.bool? fun b => gdK none ((List.drop 1 l).head?.bind fun z => T.lst? 1 z) fun p => bif b then O K113n27 [I v8, AV.t (T.lst 1 ev9 v9), AV.own (Id.c 0), I v11, AV.own (Id.c 1), I v13, AV.t (T.int
 IntKind.u64 (IntKind.u64.wrap (IntKind.u64.wrap (v15 - (1 : Int)) - (1 : Int)))), AV.t (T.int IntKind.u64 (0 : Int)), AV.t (T.lst 1 ev9 v9), I (↑v9.length : Int), I (0 : Int)] [Blk.sl false 1 p.fst p.snd, Blk.sl false 1
 ec1 c1] else gdK none (if (0 : Int) ≤ v13 ∧ v13 < (↑c1.length : Int) then some () else none) fun x => gdK none (storeIn v13.toNat 0 [T.int IntKind.u32 (IntKind.u32.wrap (IntKind.u64.wrap (v15 - (1 : Int))))] c1) fun l =>
 O K113n15 [I v8, AV.t (T.lst 1 ev9 v9), AV.own (Id.c 0), I v11, AV.own (Id.c 1), I (IntKind.i64.wrap (v13 - (1 : Int)))] [Blk.sl false 1 p.fst p.snd, Blk.sl false 1 ec1 l] else O K113n19 [I v8, AV.t (T.lst 1 ev9 v9),
 AV.own (Id.c 0), I v11, AV.own (Id.c 1), I v13, AV.t (T.int IntKind.u64 (IntKind.u64.wrap (v15 - (1 : Int)))), AV.t (T.int IntKind.u64 (IntKind.u64.wrap (v16 + IntKind.u64.wrap n)))] [Blk.sl false 1 ec0 c0, Blk.sl false 1
 ec1 c1] else gdK none (inB v13 (IntKind.i64.wrap (IntKind.i64.wrap (v13 + v11) + (1 : Int))) (↑c0.length : Int)) fun x => gdK none (O (Key.call 125) [AV.part (Id.c 0) 1 v13.toNat ((IntKind.i64.wrap (IntKind.i64.wrap (v13
 + v11) + (1 : Int))).toNat - v13.toNat), AV.t (T.lst 1 ev9 v9), AV.t (T.int IntKind.u64 v15)] [Blk.sl false 1 ec0 c0]) fun l => gdK none l.head? fun x => gdK none x.bool? fun b => gdK none ((List.drop 1 l).head?.bind fun
 z => T.lst? 1 z) fun p => bif b then O K113n27 [I v8, AV.t (T.lst 1 ev9 v9), AV.own (Id.c 0), I v11, AV.own (Id.c 1), I v13, AV.t (T.int IntKind.u64 (IntKind.u64.wrap (v15 - (1 : Int)))), AV.t (T.int IntKind.u64 (0 :
 Int)), AV.t (T.lst 1 ev9 v9), I (↑v9.length : Int), I (0 : Int)] [Blk.sl false 1 p.fst p.snd, Blk.sl false 1 ec1 c1] else gdK none (if (0 : Int) ≤ v13 ∧ v13 < (↑c1.length : Int) then some () else none) fun x => gdK none
 (storeIn v13.toNat 0 [T.int IntKind.u32 (IntKind.u32.wrap v15)] c1) fun l => O K113n15 [I v8, AV.t (T.lst 1 ev9 v9), AV.own (Id.c 0), I v11, AV.own (Id.c 1), I (IntKind.i64.wrap (v13 - (1 : Int)))] [Blk.sl false 1 p.fst
 p.snd, Blk.sl false 1 ec1 l]) := by kernel_rfl
theorem e113n27 (O : Orc) (v8 : Int) (ev9 : Bool) (v9 : List (List T)) (v11 : Int) (v13 : Int) (v15 : Int) (v17 : Int) (ev167 : Bool) (v167 : List (List T)) (v168 : Int) (v169 : Int) (ec0 : Bool) (c0 : List (List T)) (ec1 : Bool) (c1 : List (List T)) : stepO PROG ann O K113n27 [(I v8), (AV.t (T.lst 1 ev9 v9)), (AV.own (Id.c 0)), (I v11), (AV.own (Id.c 1)), (I v13), (AV.t (T.int IntKind.u64 v15)), (AV.t (T.int IntKind.u64 v17)), (AV.t (T.lst 1 ev167 v167)), (I v168), (I v169)] [(Blk.sl false 1 ec0 c0), (Blk.sl false 1 ec1 c1)] =
  (bif decide (v169 < v168) then gdK none (if (0 : Int) ≤ v169 ∧ v169 < (↑v167.length : Int) then some () else none) fun x => gdK none v167[v169.toNat]? fun l => gdK none l.head? fun x => gdK none (T.int? IntKind.u32 x) fun
 n => gdK none (if (0 : Int) ≤ IntKind.i64.wrap (v13 + v169) ∧ IntKind.i64.wrap (v13 + v169) < (↑c0.length : Int) then some () else none) fun x => gdK none c0[(IntKind.i64.wrap (v13 + v169)).toNat]? fun l => gdK none
 l.head? fun x => gdK none (T.int? IntKind.u32 x) fun n_1 => gdK none (if (0 : Int) ≤ IntKind.i64.wrap (v13 + v169) ∧ IntKind.i64.wrap (v13 + v169) < (↑c0.length : Int) then some () else none) fun x => gdK none (storeIn
 (IntKind.i64.wrap (v13 + v169)).toNat 0 [T.int IntKind.u32 (IntKind.u32.wrap (IntKind.u64.wrap (v17 + IntKind.u64.wrap (IntKind.u64.wrap n_1 + IntKind.u64.wrap n))))] c0) fun l => O K113n27 [I v8, AV.t (T.lst 1 ev9 v9),
 AV.own (Id.c 0), I v11, AV.own (Id.c 1), I v13, AV.t (T.int IntKind.u64 v15), AV.t (T.int IntKind.u64 ((IntKind.u64.wrap (v17 + IntKind.u64.wrap (IntKind.u64.wrap n_1 + IntKind.u64.wrap n))).fdiv ((2 : Int) ^ 32))), AV.t
 (T.lst 1 ev167 v167), I v168, I (IntKind.i64.wrap (v169 + (1 : Int)))] [Blk.sl false 1 ec0 l, Blk.sl false 1 ec1 c1] else gdK none (if (0 : Int) ≤ IntKind.i64.wrap (v13 + v11) ∧ IntKind.i64.wrap (v13 + v11) < (↑c0.length
 : Int) then some () else none) fun x => gdK none c0[(IntKind.i64.wrap (v13 + v11)).toNat]? fun l => gdK none l.head? fun x => gdK none (T.int? IntKind.u32 x) fun n => gdK none (if (0 : Int) ≤ IntKind.i64.wrap (v13 + v11)
 ∧ IntKind.i64.wrap (v13 + v11) < (↑c0.length : Int) then some () else none) fun x => gdK none (storeIn (IntKind.i64.wrap (v13 + v11)).toNat 0 [T.int IntKind.u32 (IntKind.u32.wrap (n + IntKind.u32.wrap v17))] c0) fun l =>
 gdK none (if (0 : Int) ≤ v13 ∧ v13 < (↑c1.length : Int) then some () else none) fun x => gdK none (storeIn v13.toNat 0 [T.int IntKind.u32 (IntKind.u32.wrap v15)] c1) fun l_1 => O K113n15 [I v8, AV.t (T.lst 1 ev9 v9),
 AV.own (Id.c 0), I v11, AV.own (Id.c 1), I (IntKind.i64.wrap (v13 - (1 : Int)))] [Blk.sl false 1 ec0 l, Blk.sl false 1 ec1 l_1]) := by kernel_rfl
theorem e125 (O : Orc) (off n : Nat) (ey : Bool) (y : List (List T)) (g : Int) (eu : Bool) (u : List (List T)) : stepO PROG ann O (Key.call 125) [AV.part (Id.c 0) 1 off n, AV.t (T.lst 1 ey y), AV.t (T.int .u64 g)] [Blk.sl false 1 eu u] =
  (O K125n3m1 [AV.part (Id.c 0) 1 off n, AV.t (T.lst 1 ey y), AV.t (T.int IntKind.u64 g), AV.t (T.int IntKind.u64 (0 : Int)), AV.t (T.int IntKind.u64 (0 : Int)), I (↑n : Int), I (0 : Int)] [Blk.sl false 1 eu u]) := by kernel_rfl
theorem e125n3 (O : Orc) (v0 : Nat) (v0n : Nat) (ev1 : Bool) (v1 : List (List T)) (v2 : Int) (v7 : Int) (v8 : Int) (v12 : Int) (v13 : Int) (ec0 : Bool) (c0 : List (List T)) : stepO PROG ann O K125n3m1 [(AV.part (Id.c 0) 1 v0 v0n), (AV.t (T.lst 1 ev1 v1)), (AV.t (T.int IntKind.u64 v2)), (AV.t (T.int IntKind.u64 v7)), (AV.t (T.int IntKind.u64 v8)), (I v12), (I v13)] [(Blk.sl false 1 ec0 c0)] =
  (bif decide (v13 < v12) then bif decide (v13 < (↑v1.length : Int)) then gdK none (if (0 : Int) ≤ v13 ∧ v13 < (↑v1.length : Int) then some () else none) fun x => gdK none v1[v13.toNat]? fun l => gdK none l.head? fun x =>
 gdK none (T.int? IntKind.u32 x) fun n => gdK none (if (0 : Int) ≤ v13 ∧ v13 < (↑v0n : Int) then some () else none) fun x => gdK none c0[v0 + v13.toNat]? fun l => gdK none l.head? fun x => gdK none (T.int? IntKind.u32 x)
 fun n_1 => gdK none (if (0 : Int) ≤ v13 ∧ v13 < (↑v0n : Int) then some () else none) fun x => gdK none (storeIn (v0 + v13.toNat) 0 [T.int IntKind.u32 (IntKind.u32.wrap (IntKind.u64.wrap (IntKind.u64.wrap (IntKind.u64.wrap
 n_1 - IntKind.u64.wrap (↑(BitVec.ofInt 64 (IntKind.u64.wrap (v8 + IntKind.u64.wrap (v2 * IntKind.u64.wrap n))) &&& BitVec.ofInt 64 (4294967295 : Int)).toNat : Int)) - v7)))] c0) fun l => O K125n3m1 [AV.part (Id.c 0) 1 v0
 v0n, AV.t (T.lst 1 ev1 v1), AV.t (T.int IntKind.u64 v2), AV.t (T.int IntKind.u64 ((IntKind.u64.wrap (IntKind.u64.wrap (IntKind.u64.wrap n_1 - IntKind.u64.wrap (↑(BitVec.ofInt 64 (IntKind.u64.wrap (v8 + IntKind.u64.wrap
 (v2 * IntKind.u64.wrap n))) &&& BitVec.ofInt 64 (4294967295 : Int)).toNat : Int)) - v7)).fdiv ((2 : Int) ^ 63))), AV.t (T.int IntKind.u64 ((IntKind.u64.wrap (v8 + IntKind.u64.wrap (v2 * IntKind.u64.wrap n))).fdiv ((2 :
 Int) ^ 32))), I v12, I (IntKind.i64.wrap (v13 + (1 : Int)))] [Blk.sl false 1 ec0 l] else gdK none (if (0 : Int) ≤ v13 ∧ v13 < (↑v0n : Int) then some () else none) fun x => gdK none c0[v0 + v13.toNat]? fun l => gdK none
 l.head? fun x => gdK none (T.int? IntKind.u32 x) fun n => gdK none (if (0 : Int) ≤ v13 ∧ v13 < (↑v0n : Int) then some () else none) fun x => gdK none (storeIn (v0 + v13.toNat) 0 [T.int IntKind.u32 (IntKind.u32.wrap
 (IntKind.u64.wrap (IntKind.u64.wrap (IntKind.u64.wrap n - IntKind.u64.wrap (↑(BitVec.ofInt 64 v8 &&& BitVec.ofInt 64 (4294967295 : Int)).toNat : Int)) - v7)))] c0) fun l => O K125n3m1 [AV.part (Id.c 0) 1 v0 v0n, AV.t
 (T.lst 1 ev1 v1), AV.t (T.int IntKind.u64 v2), AV.t (T.int IntKind.u64 ((IntKind.u64.wrap (IntKind.u64.wrap (IntKind.u64.wrap n - IntKind.u64.wrap (↑(BitVec.ofInt 64 v8 &&& BitVec.ofInt 64 (4294967295 : Int)).toNat :
 Int)) - v7)).fdiv ((2 : Int) ^ 63))), AV.t (T.int IntKind.u64 (v8.fdiv ((2 : Int) ^ 32))), I v12, I (IntKind.i64.wrap (v13 + (1 : Int)))] [Blk.sl false 1 ec0 l] else some [T.bool (decide (v7 > (0 : Int))), T.lst 1 ec0 c0]) := by kernel_rfl
theorem e122 (O : Orc) (ex : Bool) (x : List (List T)) (n : Int) : stepO PROG ann O (Key.call 122) [AV.t (T.lst 1 ex x), AV.t (T.int .u32 n)] [] =
  (gdK none (mkOk (↑x.length : Int) (↑x.length : Int)) fun x_1 => O K122n4 [AV.t (T.lst 1 ex x), AV.t (T.int IntKind.u32 n), AV.own (Id.c 0), AV.t (T.int IntKind.u64 (0 : Int)), I (IntKind.i64.wrap ((↑x.length : Int) - (1 :
 Int)))] [Blk.sl false 1 false (List.replicate (↑x.length : Int).toNat [T.int IntKind.u32 (0 : Int)])]) := by kernel_rfl
theorem e122n4 (O : Orc) (ev0 : Bool) (v0 : List (List T)) (v1 : Int) (v7 : Int) (v8 : Int) (ec0 : Bool) (c0 : List (List T)) : stepO PROG ann O K122n4 [(AV.t (T.lst 1 ev0 v0)), (AV.t (T.int IntKind.u32 v1)), (AV.own (Id.c 0)), (AV.t (T.int IntKind.u64 v7)), (I v8)] [(Blk.sl false 1 ec0 c0)] =
  (bif decide (v8 ≥ (0 : Int)) then gdK none (if (0 : Int) ≤ v8 ∧ v8 < (↑v0.length : Int) then some () else none) fun x => gdK none v0[v8.toNat]? fun l => gdK none l.head? fun x => gdK none (T.int? IntKind.u32 x) fun n =>
 gdK none (if IntKind.u64.wrap v1 = (0 : Int) then none else some ()) fun x => gdK none (if (0 : Int) ≤ v8 ∧ v8 < (↑c0.length : Int) then some () else none) fun x => gdK none (storeIn v8.toNat 0 [T.int IntKind.u32
 (IntKind.u32.wrap (IntKind.u64.wrap ((IntKind.u64.wrap (↑(BitVec.ofInt 64 (IntKind.u64.wrap (v7 * (2 : Int) ^ 32)) ||| BitVec.ofInt 64 (IntKind.u64.wrap n)).toNat : Int)).tdiv (IntKind.u64.wrap v1))))] c0) fun l => gdK
 none (if IntKind.u64.wrap v1 = (0 : Int) then none else some ()) fun x => O K122n4 [AV.t (T.lst 1 ev0 v0), AV.t (T.int IntKind.u32 v1), AV.own (Id.c 0), AV.t (T.int IntKind.u64 ((IntKind.u64.wrap (↑(BitVec.ofInt 64
 (IntKind.u64.wrap (v7 * (2 : Int) ^ 32)) ||| BitVec.ofInt 64 (IntKind.u64.wrap n)).toNat : Int)).tmod (IntKind.u64.wrap v1))), I (IntKind.i64.wrap (v8 - (1 : Int)))] [Blk.sl false 1 ec0 l] else some [T.lst 1 ec0 c0, T.int
 IntKind.u32 (IntKind.u32.wrap v7)]) := by kernel_rfl
theorem e123 (O : Orc) (n : Int) : stepO PROG ann O (Key.call 123) [AV.t (T.int .u32 n)] [] =
  (gdK none (O (Key.call 129) [AV.t (T.int IntKind.u32 n)] []) fun l => gdK none l.head? fun x => gdK none (T.int? IntKind.i64 x) fun n => some [T.int IntKind.i64 (IntKind.i64.wrap ((32 : Int) - n))]) := by kernel_rfl
theorem e124 (O : Orc) (ex : Bool) (x : List (List T)) (n : Int) : stepO PROG ann O (Key.call 124) [AV.t (T.lst 1 ex x), I n] [] =
  (gdK none (mkOk (IntKind.i64.wrap (n.tdiv (32 : Int))) (IntKind.i64.wrap (IntKind.i64.wrap ((↑x.length : Int) + IntKind.i64.wrap (n.tdiv (32 : Int))) + (1 : Int)))) fun x_1 => O K124n4 [I n, AV.own (Id.c 0), AV.t (T.int
 IntKind.u32 (0 : Int)), AV.t (T.lst 1 ex x), I (↑x.length : Int), I (0 : Int)] [Blk.sl false 1 false (List.replicate (IntKind.i64.wrap (n.tdiv (32 : Int))).toNat [T.int IntKind.u32 (0 : Int)])]) := by kernel_rfl
theorem e124n4 (O : Orc) (v1 : Int) (v6 : Int) (ev18 : Bool) (v18 : List (List T)) (v19 : Int) (v20 : Int) (ec0 : Bool) (c0 : List (List T)) : stepO PROG ann O K124n4 [(I v1), (AV.own (Id.c 0)), (AV.t (T.int IntKind.u32 v6)), (AV.t (T.lst 1 ev18 v18)), (I v19), (I v20)] [(Blk.sl false 1 ec0 c0)] =
  (bif decide (v20 < v19) then gdK none (if (0 : Int) ≤ v20 ∧ v20 < (↑v18.length : Int) then some () else none) fun x => gdK none v18[v20.toNat]? fun l => gdK none l.head? fun x => gdK none (T.int? IntKind.u32 x) fun n =>
 gdK none (if v1.tmod (32 : Int) < (0 : Int) then none else some ()) fun x => gdK none (small 4 (c0.length + [[T.int IntKind.u32 (IntKind.u32.wrap (↑(BitVec.ofInt 32 (IntKind.u32.wrap (n * (2 : Int) ^ min (v1.tmod (32 :
 Int)).toNat 32)) ||| BitVec.ofInt 32 v6).toNat : Int))]].length)) fun x => gdK none (if IntKind.i64.wrap ((32 : Int) - v1.tmod (32 : Int)) < (0 : Int) then none else some ()) fun x => O K124n4 [I v1, AV.own (Id.c 0), AV.t
 (T.int IntKind.u32 (IntKind.u32.wrap ((IntKind.u64.wrap n).fdiv ((2 : Int) ^ min (IntKind.i64.wrap ((32 : Int) - v1.tmod (32 : Int))).toNat 64)))), AV.t (T.lst 1 ev18 v18), I v19, I (IntKind.i64.wrap (v20 + (1 : Int)))]
 [Blk.sl false 1 (ec0 && false) (c0 ++ [[T.int IntKind.u32 (IntKind.u32.wrap (↑(BitVec.ofInt 32 (IntKind.u32.wrap (n * (2 : Int) ^ min (v1.tmod (32 : Int)).toNat 32)) ||| BitVec.ofInt 32 v6).toNat : Int))]])] else gdK none
 (small 4 (c0.length + [[T.int IntKind.u32 v6]].length)) fun x => some [T.lst 1 (ec0 && false) (c0 ++ [[T.int IntKind.u32 v6]])]) := by kernel_rfl
theorem e126 (O : Orc) (ex : Bool) (x : List (List T)) (n : Int) : stepO PROG ann O (Key.call 126) [AV.t (T.lst 1 ex x), I n] [] =
  (gdK none (inB (0 : Int) (mm false (IntKind.i64.wrap (n.tdiv (32 : Int))) (↑x.length : Int)) (↑x.length : Int)) fun x_1 => O K126n4 [AV.t (T.lst 1 ex x), I n, B false, I (mm false (IntKind.i64.wrap (n.tdiv (32 : Int)))
 (↑x.length : Int)), AV.t (T.lst 1 ex (sub (0 : Int) (mm false (IntKind.i64.wrap (n.tdiv (32 : Int))) (↑x.length : Int)) x)), AV.t (T.int IntKind.i64 (↑(sub (0 : Int) (mm false (IntKind.i64.wrap (n.tdiv (32 : Int)))
 (↑x.length : Int)) x).length : Int)), I (0 : Int)] []) := by kernel_rfl
theorem e126n4 (O : Orc) (ev0 : Bool) (v0 : List (List T)) (v1 : Int) (v6 : Bool) (v7 : Int) (ev20 : Bool) (v20 : List (List T)) (v21 : Int) (v22 : Int) : stepO PROG ann O K126n4 [(AV.t (T.lst 1 ev0 v0)), (I v1), (B v6), (I v7), (AV.t (T.lst 1 ev20 v20)), (I v21), (I v22)] [] =
  (bif decide (v22 < v21) then gdK none (if (0 : Int) ≤ v22 ∧ v22 < (↑v20.length : Int) then some () else none) fun x => gdK none v20[v22.toNat]? fun l => gdK none l.head? fun x => gdK none (T.int? IntKind.u32 x) fun n => O
 K126n4 [AV.t (T.lst 1 ev0 v0), I v1, B (bif v6 then true else !n == (0 : Int)), I v7, AV.t (T.lst 1 ev20 v20), I v21, I (IntKind.i64.wrap (v22 + (1 : Int)))] [] else gdK none (inB v7 (↑v0.length : Int) (↑v0.length : Int))
 fun x => bif (↑(sub v7 (↑v0.length : Int) v0).length : Int) == (0 : Int) then some [T.emp true, T.bool v6] else gdK (some !v6) (if (0 : Int) ≤ (0 : Int) ∧ (0 : Int) < (↑(sub v7 (↑v0.length : Int) v0).length : Int) then
 some () else none) fun x => gdK (some !v6) (sub v7 (↑v0.length : Int) v0)[0]? fun l => gdK (some !v6) l.head? fun x => gdK (some !v6) (T.int? IntKind.u32 x) fun n => gdK (some !v6) (if IntKind.i64.wrap ((32 : Int) -
 v1.tmod (32 : Int)) < (0 : Int) then none else some ()) fun x => gdK none (mkOk (↑(sub v7 (↑v0.length : Int) v0).length : Int) (↑(sub v7 (↑v0.length : Int) v0).length : Int)) fun x => O K126n15 [AV.t (T.lst 1 ev0 (sub v7
 (↑v0.length : Int) v0)), I (v1.tmod (32 : Int)), AV.t (T.bool (bif v6 then true else bif !IntKind.u32.wrap (n * (2 : Int) ^ min (IntKind.i64.wrap ((32 : Int) - v1.tmod (32 : Int))).toNat 32) == (0 : Int) then decide
 (v1.tmod (32 : Int) > (0 : Int)) else false)), AV.own (Id.c 0), AV.t (T.lst 1 ev0 (sub v7 (↑v0.length : Int) v0)), I (↑(sub v7 (↑v0.length : Int) v0).length : Int), I (0 : Int)] [Blk.sl false 1 false (List.replicate
 (↑(sub v7 (↑v0.length : Int) v0).length : Int).toNat [T.int IntKind.u32 (0 : Int)])]) := by kernel_rfl
theorem e126n15 (O : Orc) (ev0 : Bool) (v0 : List (List T)) (v1 : Int) (v6 : Bool) (ev58 : Bool) (v58 : List (List T)) (v59 : Int) (v60 : Int) (ec0 : Bool) (c0 : List (List T)) : stepO PROG ann O K126n15 [(AV.t (T.lst 1 ev0 v0)), (I v1), (B v6), (AV.own (Id.c 0)), (AV.t (T.lst 1 ev58 v58)), (I v59), (I v60)] [(Blk.sl false 1 ec0 c0)] =
  (bif decide (v60 < v59) then gdK none (if (0 : Int) ≤ v60 ∧ v60 < (↑v58.length : Int) then some () else none) fun x => gdK none v58[v60.toNat]? fun l => gdK none l.head? fun x => gdK none (T.int? IntKind.u32 x) fun n =>
 gdK none (if v1 < (0 : Int) then none else some ()) fun x => gdK none (if (0 : Int) ≤ v60 ∧ v60 < (↑c0.length : Int) then some () else none) fun x => gdK none (storeIn v60.toNat 0 [T.int IntKind.u32 (n.fdiv ((2 : Int) ^
 min v1.toNat 32))] c0) fun l => bif bif decide (IntKind.i64.wrap (v60 + (1 : Int)) < (↑v0.length : Int)) then decide (v1 > (0 : Int)) else false then gdK none (if (0 : Int) ≤ v60 ∧ v60 < (↑l.length : Int) then some ()
 else none) fun x => gdK none l[v60.toNat]? fun l_1 => gdK none l_1.head? fun x => gdK none (T.int? IntKind.u32 x) fun n => gdK none (if (0 : Int) ≤ IntKind.i64.wrap (v60 + (1 : Int)) ∧ IntKind.i64.wrap (v60 + (1 : Int)) <
 (↑v0.length : Int) then some () else none) fun x => gdK none v0[(IntKind.i64.wrap (v60 + (1 : Int))).toNat]? fun l_2 => gdK none l_2.head? fun x => gdK none (T.int? IntKind.u32 x) fun n_1 => gdK none (if IntKind.i64.wrap
 ((32 : Int) - v1) < (0 : Int) then none else some ()) fun x => gdK none (if (0 : Int) ≤ v60 ∧ v60 < (↑l.length : Int) then some () else none) fun x => gdK none (storeIn v60.toNat 0 [T.int IntKind.u32 (IntKind.u32.wrap
 (↑(BitVec.ofInt 32 n ||| BitVec.ofInt 32 (IntKind.u32.wrap (n_1 * (2 : Int) ^ min (IntKind.i64.wrap ((32 : Int) - v1)).toNat 32))).toNat : Int))] l) fun l => O K126n15 [AV.t (T.lst 1 ev0 v0), I v1, B v6, AV.own (Id.c 0),
 AV.t (T.lst 1 ev58 v58), I v59, I (IntKind.i64.wrap (v60 + (1 : Int)))] [Blk.sl false 1 ec0 l] else O K126n15 [AV.t (T.lst 1 ev0 v0), I v1, B v6, AV.own (Id.c 0), AV.t (T.lst 1 ev58 v58), I v59, I (IntKind.i64.wrap (v60 +
 (1 : Int)))] [Blk.sl false 1 ec0 l] else some [T.lst 1 ec0 c0, T.bool v6]) := by kernel_rfl
open Go Go.Aev Go.Aev.Gen Go.Aev.Wd

def dgs : Nat → Nat → List Int
  | 0, _ => []
  | f + 1, n => if n = 0 then [] else ((n % 4294967296 : Nat) : Int) :: dgs f (n / 4294967296)
theorem dgs_ok : ∀ (f n : Nat), n ≤ f → Dg (dgs f n) ∧ Can (dgs f n) ∧ val (dgs f n) = (n : Int)
  | 0, n, h => by
    obtain rfl : n = 0 := by omega
    exact ⟨fun a ha => by simp [dgs] at ha, fun k hk => by simp [dgs] at hk, rfl⟩
  | f + 1, n, h => by
    rw [dgs]
    by_cases hn : n = 0
    · subst hn
      rw [if_pos rfl]
      exact ⟨(fun a ha => by cases ha), (fun k hk => by cases hk), rfl⟩
    · rw [if_neg hn]
      have hlt : n / 4294967296 < n := Nat.div_lt_self (by omega) (by omega)
      obtain ⟨h1, h2, h3⟩ := dgs_ok f (n / 4294967296) (by omega)
      have hm : n % 4294967296 < 4294967296 := Nat.mod_lt _ (by omega)
      refine ⟨fun a ha => ?_, fun k hk => ?_, ?_⟩
      · rcases List.mem_cons.1 ha with rfl | ha
        · omega
        · exact h1 a ha
      · cases k with
        | zero =>
          have hl : dgs f (n / 4294967296) = [] := List.length_eq_zero_iff.1 (by simpa using hk)
          rw [hl] at h3
          have hv : val [] = 0 := rfl
          rw [hv] at h3
          show (_ : Int) ≠ 0
          simp only [dat, List.getD_cons_zero]
          omega
        | succ k =>
          have := h2 k (by simpa using hk)
          simpa [dat] using this
      · rw [val, h3]; omega
def dz (z : Int) : List Int := dgs z.natAbs z.natAbs
theorem dz_dg (z : Int) : Dg (dz z) := (dgs_ok _ _ (Nat.le_refl _)).1
theorem dz_can (z : Int) : Can (dz z) := (dgs_ok _ _ (Nat.le_refl _)).2.1
theorem dz_val (z : Int) : val (dz z) = (z.natAbs : Int) := (dgs_ok _ _ (Nat.le_refl _)).2.2
theorem can_tail {a : Int} {d : List Int} (h : Can (a :: d)) : Can d := fun k hk => by
  have := h (k + 1) (by simp [hk])
  simpa [dat] using this
theorem can_uniq : ∀ {a b : List Int}, Dg a → Dg b → Can a → Can b → val a = val b → a = b
  | [], [], _, _, _, _, _ => rfl
  | [], y :: b, _, hb, _, cb, h => by
    have := can_pos hb cb (by simp)
    rw [← h] at this
    simp [val] at this
  | x :: a, [], ha, _, ca, _, h => by
    have := can_pos ha ca (by simp)
    rw [h] at this
    simp [val] at this
  | x :: a, y :: b, ha, hb, ca, cb, h => by
    have h1 := ha x List.mem_cons_self
    have h2 := hb y List.mem_cons_self
    rw [val, val] at h
    have hxy : x = y := by omega
    subst hxy
    have := can_uniq (fun u hu => ha u (List.mem_cons_of_mem _ hu)) (fun u hu => hb u (List.mem_cons_of_mem _ hu)) (can_tail ca) (can_tail cb) (by omega)
    rw [this]
theorem dz_of {d : List Int} {z : Int} (h : Dg d) (c : Can d) (hv : val d = (z.natAbs : Int)) : d = dz z := can_uniq h (dz_dg z) c (dz_can z) (by rw [hv, dz_val])
theorem dz_nil {z : Int} : dz z = [] ↔ z = 0 := by
  constructor
  · intro h
    have := dz_val z
    rw [h] at this
    simp [val] at this
    exact this.symm ▸ by omega
  · rintro rfl; rfl
theorem dz_neg (z : Int) : dz (-z) = dz z := by unfold dz; rw [Int.natAbs_neg]
theorem dz_len {z : Int} {k : Nat} (h : (z.natAbs : Int) < 4294967296 ^ k) : (dz z).length ≤ k := by
  rcases Nat.lt_or_ge k (dz z).length with h1 | h1
  · exfalso
    obtain ⟨m, hm⟩ : ∃ m, (dz z).length = m + 1 := ⟨(dz z).length - 1, by omega⟩
    have h2 := can_ge (dz_dg z) (dz_can z) hm
    rw [dz_val] at h2
    have h3 : (4294967296 : Int) ^ k ≤ 4294967296 ^ m := pow_mono (by omega)
    omega
  · exact h1
theorem lim_dz {z : Int} (h : Lim z) : (dz z).length ≤ 200 := dz_len h

def byt4 (a : Int) : List UInt8 := [UInt8.ofNat (a.toNat % 256), UInt8.ofNat (a.toNat / 256 % 256), UInt8.ofNat (a.toNat / 65536 % 256), UInt8.ofNat (a.toNat / 16777216 % 256)]
def bys : List Int → List UInt8
  | [] => []
  | a :: d => byt4 a ++ bys d
def encS (d : List Int) : ByteArray := ⟨(bys d).toArray⟩
theorem bys_len : ∀ d : List Int, (bys d).length = 4 * d.length
  | [] => rfl
  | a :: d => by rw [bys, List.length_append, bys_len d, List.length_cons]; simp [byt4]; omega
theorem bys_drop : ∀ (i : Nat) (d : List Int), (bys d).drop (4 * i) = bys (d.drop i)
  | 0, d => by simp
  | i + 1, [] => by simp [bys]
  | i + 1, a :: d => by
    rw [bys, show 4 * (i + 1) = (byt4 a).length + 4 * i from by simp [byt4]; omega, List.drop_append, List.drop_of_length_le (by omega), List.nil_append, List.drop_succ_cons]
    rw [show (byt4 a).length + 4 * i - (byt4 a).length = 4 * i from by omega]
    exact bys_drop i d
theorem encS_size (d : List Int) : (encS d).size = 4 * d.length := by
  show (bys d).toArray.size = _
  rw [List.size_toArray, bys_len]
theorem ext_list (A : Array UInt8) (lo n x y : Nat) (h : A.size ≤ lo + n) : ((#[] : Array UInt8).extract 0 0 ++ A.extract lo (lo + n) ++ (#[] : Array UInt8).extract x y).toList = A.toList.drop lo := by
  simp only [Array.toList_append, Array.toList_extract, List.extract_eq_take_drop, List.take_nil, List.drop_nil, List.nil_append, List.append_nil]
  rw [List.take_of_length_le (by simp; omega)]
theorem ext_size (s : ByteArray) (lo n : Nat) (h : n = s.size) : (s.extract lo n).size = n - lo := by
  subst h
  have : (s.extract lo s.size).size = min s.size s.size - lo := ByteArray.size_extract
  rw [this]; omega
theorem byte_val {n : Nat} (h : n < 256) : ((UInt8.ofNat n).toNat : Int) = (n : Int) := by
  rw [UInt8.toNat_ofNat']
  omega
theorem pw8 : (2 : Int) ^ 8 = 256 := by decide
theorem pw16 : (2 : Int) ^ 16 = 65536 := by decide
theorem pw24 : (2 : Int) ^ 24 = 16777216 := by decide
theorem w32 {v : Int} (h : 0 ≤ v ∧ v < 4294967296) : IntKind.u32.wrap v = v := by rw [wr32]; omega
theorem join4 {a : Int} (h : 0 ≤ a ∧ a < 4294967296) (x0 x2 x4 x6 : Int) (h0 : x0 = ((a.toNat % 256 : Nat) : Int)) (h2 : x2 = ((a.toNat / 256 % 256 : Nat) : Int)) (h4 : x4 = ((a.toNat / 65536 % 256 : Nat) : Int)) (h6 : x6 = ((a.toNat / 16777216 % 256 : Nat) : Int)) :
    IntKind.u32.wrap (((BitVec.ofInt 32 (IntKind.u32.wrap (((BitVec.ofInt 32 (IntKind.u32.wrap (((BitVec.ofInt 32 (IntKind.u32.wrap x0) ||| BitVec.ofInt 32 (IntKind.u32.wrap (IntKind.u32.wrap x2 * (2 : Int) ^ 8))).toNat : Nat) : Int)) ||| BitVec.ofInt 32 (IntKind.u32.wrap (IntKind.u32.wrap x4 * (2 : Int) ^ 16))).toNat : Nat) : Int)) ||| BitVec.ofInt 32 (IntKind.u32.wrap (IntKind.u32.wrap x6 * (2 : Int) ^ 24))).toNat : Nat) : Int) = a := by
  have b0 : 0 ≤ x0 ∧ x0 < 256 := by omega
  have b2 : 0 ≤ x2 ∧ x2 < 256 := by omega
  have b4 : 0 ≤ x4 ∧ x4 < 256 := by omega
  have b6 : 0 ≤ x6 ∧ x6 < 256 := by omega
  rw [w32 (v := x0) (by omega), w32 (v := x2) (by omega), w32 (v := x4) (by omega), w32 (v := x6) (by omega), pw8, pw16, pw24]
  rw [w32 (v := x2 * 256) (by omega), w32 (v := x4 * 65536) (by omega), w32 (v := x6 * 16777216) (by omega)]
  rw [or32 (y := x0) (z := x2 * 256) (n := 8) (t := x2.toNat) (by omega) (by rw [pw8]; omega) (by show x2 * 256 = ((256 * x2.toNat : Nat) : Int); omega) (by omega) (by omega)]
  rw [or32 (y := x2 * 256 + x0) (z := x4 * 65536) (n := 16) (t := x4.toNat) (by omega) (by rw [pw16]; omega) (by show x4 * 65536 = ((65536 * x4.toNat : Nat) : Int); omega) (by omega) (by omega)]
  rw [or32 (y := x4 * 65536 + (x2 * 256 + x0)) (z := x6 * 16777216) (n := 24) (t := x6.toNat) (by omega) (by rw [pw24]; omega) (by show x6 * 16777216 = ((16777216 * x6.toNat : Nat) : Int); omega) (by omega) (by omega)]
  omega
abbrev LS (s : Bool) (d : List Int) : AV := AV.agg [B s, AV.t (T.str (encS d))]
theorem n97 (s : Bool) (d : List Int) (hd : Dg d) (hl : d.length ≤ 1000) : ∀ (rest : List Int) (i : Nat) (done : List Int), d.drop i = rest → done.length = i → d = done ++ rest →
    Or K97n3 [r0, o1, I (d.length : Int), I (i : Int)] [Blk.box [B s, AV.t (T.str (encS d))], Blk.sl false 1 false (encD (done ++ List.replicate rest.length 0))] = some [T.lst 1 false (encD d)] := by
  intro rest
  induction rest with
  | nil =>
    intro i done h hi hf
    have h1 : ¬ (i : Int) < (d.length : Int) := by have := at_end h; omega
    refine orc_of ?_
    rw [e97n3]
    simp only [STL, ↓reduceIte, Int.reduceBEq, Int.reduceEq, h1, List.length_nil, List.replicate_zero]
    rw [hf]
  | cons a rest ih =>
    intro i done h hi hf
    obtain ⟨g1, g2, g3⟩ := at_drop h
    have ha := hd a (List.mem_of_getElem? g1)
    have h1 : (i : Int) < (d.length : Int) := by omega
    have hw : IntKind.i64.wrap (4 * (i : Int)) = ((4 * i : Nat) : Int) := by rw [Go.Aev.wr (by omega)]; omega
    have hsz := encS_size d
    have hin : inB ((4 * i : Nat) : Int) ((encS d).size : Int) ((encS d).size : Int) = some () := inB_ok (by omega)
    have hex : ((encS d).extract (4 * i) (encS d).size).size = 4 * d.length - 4 * i := by rw [ext_size _ _ _ rfl, hsz]
    have hL : ∀ x y : Nat, ((#[] : Array UInt8).extract 0 0 ++ (encS d).data.extract (4 * i) (4 * i + ((encS d).size - 4 * i)) ++ (#[] : Array UInt8).extract x y).toList = byt4 a ++ bys rest := fun x y => by
      rw [ext_list _ _ _ _ _ (by show (encS d).size ≤ _; omega)]
      show (bys d).toArray.toList.drop (4 * i) = _
      rw [List.toList_toArray, bys_drop, h, bys]
    have c0 : (0 : Int) ≤ 0 ∧ (0 : Int) < ((4 * d.length - 4 * i : Nat) : Int) := by omega
    have c1 : (0 : Int) ≤ 1 ∧ (1 : Int) < ((4 * d.length - 4 * i : Nat) : Int) := by omega
    have c2 : (0 : Int) ≤ 2 ∧ (2 : Int) < ((4 * d.length - 4 * i : Nat) : Int) := by omega
    have c3 : (0 : Int) ≤ 3 ∧ (3 : Int) < ((4 * d.length - 4 * i : Nat) : Int) := by omega
    have d0 : (byt4 a ++ bys rest)[0]? = some (UInt8.ofNat (a.toNat % 256)) := rfl
    have d1 : (byt4 a ++ bys rest)[1]? = some (UInt8.ofNat (a.toNat / 256 % 256)) := rfl
    have d2 : (byt4 a ++ bys rest)[2]? = some (UInt8.ofNat (a.toNat / 65536 % 256)) := rfl
    have d3 : (byt4 a ++ bys rest)[3]? = some (UInt8.ofNat (a.toNat / 16777216 % 256)) := rfl
    have hj := join4 ha _ _ _ _ rfl rfl rfl rfl
    have h00 : 0 ≤ (i : Int) := by omega
    have hlen : (i : Int) < ((encD (done ++ List.replicate (a :: rest).length 0)).length : Int) := by rw [encD_len]; simp; omega
    have hst : storeIn i 0 [T.int .u32 a] (encD (done ++ List.replicate (a :: rest).length 0)) = some (encD ((done ++ [a]) ++ List.replicate rest.length 0)) := by
      have := set_enc done 0 a (List.replicate rest.length 0) i hi
      rw [Int.toNat_natCast] at this
      rw [List.length_cons, List.replicate_succ, this]; simp
    have := ih (i + 1) (done ++ [a]) g3 (by simp [hi]) (by rw [hf]; simp)
    refine orc_of ?_
    rw [e97n3]
    simp only [STL, ↓reduceIte, Int.reduceBEq, Int.reduceEq, h1, hw, hin, Int.toNat_natCast, hex, hL, c0, c1, c2, c3, d0, d1, d2, d3, byte_val (Nat.mod_lt _ (by decide : (0 : Nat) < 256)), hj, h00, hlen, and_self, hst, next i (by omega)]
    exact this
theorem s97 (s : Bool) (d : List Int) (hd : Dg d) (hl : d.length ≤ 1000) : Or (.call 97) [LS s d] [] = some [T.lst 1 false (encD d)] := by
  have hsz := encS_size d
  have hw : IntKind.i64.wrap (((encS d).size : Int).tdiv 4) = (d.length : Int) := by
    rw [hsz, Int.tdiv_eq_ediv_of_nonneg (by omega), Go.Aev.wr (by omega)]; omega
  have hm : mkOk (d.length : Int) (d.length : Int) = some () := by unfold mkOk; rw [if_pos (by unfold lim; omega)]
  have hr : List.replicate ((d.length : Int)).toNat [T.int .u32 0] = encD (List.replicate d.length 0) := by simp [encD]
  have := n97 s d hd hl d 0 [] rfl rfl rfl
  refine orc_of ?_
  rw [e97]
  simp only [STL, ↓reduceIte, Int.reduceBEq, Int.reduceEq, hw, hm, hr, encD_len, List.length_replicate]
  exact this
theorem n112 (e : Bool) (l : List Int) (hn : l.length ≤ 1000) : ∀ k, k ≤ l.length → Or K112n1 [lu e (l.take k)] [] = some [T.lst 1 e (encD (l.take (trimN l k)))]
  | 0, hk => by
    refine orc_of ?_
    rw [e112n1]
    have h0 : ¬ ((0 : Nat) : Int) > 0 := by omega
    simp only [STL, ↓reduceIte, Int.reduceBEq, Int.reduceEq, gdF, encD_len, List.take_zero, List.length_nil, h0, decide_false, trimN]
  | k + 1, hk => by
    have ih := n112 e l hn k (by omega)
    have h0 : ((k + 1 : Nat) : Int) > 0 := by omega
    have hw : IntKind.i64.wrap (((k + 1 : Nat) : Int) - 1) = (k : Int) := by rw [Go.Aev.wr (by omega)]; omega
    have h2 : 0 ≤ (k : Int) ∧ (k : Int) < ((k + 1 : Nat) : Int) := by omega
    have hi : inB 0 (k : Int) ((k + 1 : Nat) : Int) = some () := inB_ok (by omega)
    have hlk : (l.take (k + 1)).length = k + 1 := by rw [List.length_take]; omega
    have hg : (encD (l.take (k + 1)))[((k : Nat) : Int).toNat]? = some [T.int .u32 (dat l k)] := by
      rw [encD_at (by omega)]
      simp [dat, List.getD_eq_getElem?_getD, List.getElem?_take]
    have ht : sub 0 (k : Int) (encD (l.take (k + 1))) = encD (l.take k) := by
      simp only [sub, encD, Int.toNat_natCast, Int.toNat_zero, List.drop_zero, Nat.sub_zero, ← List.map_take, List.take_take]
      rw [Nat.min_eq_left (by omega)]
    refine orc_of ?_
    rw [e112n1, trimN]
    by_cases hz : dat l k = 0
    · rw [if_pos hz]
      simp only [STL, ↓reduceIte, Int.reduceBEq, Int.reduceEq, encD_len, hlk, h0, decide_true, hw, h2, and_self, hg, hz, hi, ht]
      exact ih
    · rw [if_neg hz]
      simp only [STL, ↓reduceIte, Int.reduceBEq, Int.reduceEq, encD_len, hlk, h0, decide_true, hw, h2, and_self, hg, hz]
theorem s112 (e : Bool) (l : List Int) (hn : l.length ≤ 1000) : Or (.call 112) [lu e l] [] = some [T.lst 1 e (encD (trim l))] := by
  have := n112 e l hn l.length (Nat.le_refl _)
  rw [List.take_length] at this
  refine orc_of ?_
  rw [e112]
  exact this
theorem trim_dg {l : List Int} (h : Dg l) : Dg (trim l) := fun a ha => h a (List.mem_of_mem_take ha)
theorem trim_dz {l : List Int} {z : Int} (h : Dg l) (hv : val l = (z.natAbs : Int)) : trim l = dz z := dz_of (trim_dg h) (trim_can l) (by rw [trim_val, hv])
def encB (l : List UInt8) : List (List T) := l.map fun b => [T.int .u8 (b.toNat : Int)]
theorem bytes_ok : ∀ l : List UInt8, bytesOf (encB l) = some l
  | [] => rfl
  | b :: l => by
    have h1 := bytes_ok l
    unfold encB at h1 ⊢
    simp only [List.map_cons, bytesOf, List.head?_cons, Option.bind_some, in1, h1]
    simp
theorem w8 (v : Int) : IntKind.u8.wrap v = v % 256 := by simp [IntKind.wrap, IntKind.signed, IntKind.bits]
theorem four (a : Int) (h : 0 ≤ a ∧ a < 4294967296) : [[T.int .u8 (IntKind.u8.wrap a)], [T.int .u8 (IntKind.u8.wrap (a.fdiv (2 ^ 8)))], [T.int .u8 (IntKind.u8.wrap (a.fdiv (2 ^ 16)))], [T.int .u8 (IntKind.u8.wrap (a.fdiv (2 ^ 24)))]] = encB (byt4 a) := by
  have e : ∀ n : Nat, n < 256 → ((UInt8.ofNat n).toNat : Int) = (n : Int) := fun n hn => byte_val hn
  simp only [encB, byt4, List.map_cons, List.map_nil, e _ (Nat.mod_lt _ (by decide : (0 : Nat) < 256)), w8, pw8, pw16, pw24]
  rw [Int.fdiv_eq_ediv_of_nonneg _ (by omega), Int.fdiv_eq_ediv_of_nonneg _ (by omega), Int.fdiv_eq_ediv_of_nonneg _ (by omega)]
  have q0 : a % 256 = ((a.toNat % 256 : Nat) : Int) := by omega
  have q1 : a / 256 % 256 = ((a.toNat / 256 % 256 : Nat) : Int) := by omega
  have q2 : a / 65536 % 256 = ((a.toNat / 65536 % 256 : Nat) : Int) := by omega
  have q3 : a / 16777216 % 256 = ((a.toNat / 16777216 % 256 : Nat) : Int) := by omega
  rw [q0, q1, q2, q3]
theorem n90 (s s0 e e1 : Bool) (l : List Int) (y : ByteArray) (hd : Dg l) (hl : l.length ≤ 1000) : ∀ (rest : List Int) (i : Nat) (done : List UInt8) (e2 : Bool), l.drop i = rest → done.length = 4 * i →
    Or K90n4 [B s, lu e l, r0, o1, lu e1 l, I (l.length : Int), I (i : Int)] [Blk.box [B s0, AV.t (T.str y)], Blk.sl false 1 e2 (encB done)] = some [tb (s && decide (l ≠ [])), T.str ⟨(done ++ bys rest).toArray⟩] := by
  intro rest
  induction rest with
  | nil =>
    intro i done e2 h hi
    have h1 : ¬ (i : Int) < (l.length : Int) := by have := at_end h; omega
    refine orc_of ?_
    rw [e90n4]
    simp only [STL, ↓reduceIte, Int.reduceBEq, Int.reduceEq, h1, bytes_ok, encD_len, bys, List.append_nil]
    cases l with
    | nil => cases s <;> simp
    | cons a l => cases s <;> (try simp) <;> (try omega)
  | cons a rest ih =>
    intro i done e2 h hi
    obtain ⟨g1, g2, g3⟩ := at_drop h
    have ha := hd a (List.mem_of_getElem? g1)
    have h1 : (i : Int) < (l.length : Int) := by omega
    have h0 : 0 ≤ (i : Int) := by omega
    have hg : (encD l)[((i : Nat) : Int).toNat]? = some [T.int .u32 a] := by rw [encD_at g2, dat_get g1]
    have hf := four a ha
    have hsm : small 1 ((encB done).length + (encB (byt4 a)).length) = some () := small_ok (by simp [encB, byt4]; omega)
    have happ : encB done ++ encB (byt4 a) = encB (done ++ byt4 a) := by simp [encB]
    have := ih (i + 1) (done ++ byt4 a) (e2 && false) g3 (by simp [byt4]; omega)
    rw [Bool.and_false, List.append_assoc] at this
    refine orc_of ?_
    rw [e90n4, bys]
    simp only [STL, ↓reduceIte, Int.reduceBEq, Int.reduceEq, h1, h0, and_self, encD_len, hg, hf, hsm, happ, next i (by omega)]
    exact this
/-- A long number's cells. -/
def RZ (z : Int) : List T := [tb (decide (z < 0)), T.str (encS (dz z))]
abbrev LZ (z : Int) : AV := LS (decide (z < 0)) (dz z)
theorem s90 (s e : Bool) (l : List Int) (hd : Dg l) (hl : l.length ≤ 1000) : Or (.call 90) [B s, lu e l] [] = some (RZ (if s then -val l else val l)) := by
  have h0 := val_nonneg hd
  have k1 := s112 e l hl
  have ht : trim l = dz (if s then -val l else val l) := trim_dz hd (by split <;> omega)
  have hlen : (trim l).length ≤ 1000 := by have : (trim l).length ≤ l.length := by (unfold trim; rw [List.length_take]; omega)
                                           omega
  have hm : mkOk 0 (IntKind.i64.wrap (4 * ((trim l).length : Int))) = some () := by
    rw [Go.Aev.wr (by omega)]; unfold mkOk; rw [if_pos (by unfold lim; omega)]
  have k2 := n90 s false e e (trim l) ⟨#[]⟩ (trim_dg hd) hlen (trim l) 0 [] false rfl rfl
  have hv : (s && decide (trim l ≠ [])) = decide ((if s then -val l else val l) < 0) := by
    have hz : trim l = [] ↔ val l = 0 := by
      rw [ht, dz_nil]; split <;> omega
    cases s with
    | false => simp; omega
    | true =>
      simp only [Bool.true_and, if_true]
      refine decide_eq_decide.2 ?_
      rw [ne_eq, hz]; omega
  refine orc_of ?_
  rw [e90]
  simp only [STL, ↓reduceIte, Int.reduceBEq, Int.reduceEq, k1, encD_len, hm]
  refine k2.trans ?_
  rw [List.nil_append, hv, ht]
  rfl
open Go Go.Aev Go.Aev.Gen Go.Aev.Wd

theorem i64w {v : Int} (h : -9223372036854775808 ≤ v ∧ v < 9223372036854775808) : IntKind.i64.wrap v = v := Go.Aev.wr h
theorem encS_nil (d : List Int) : ((encS d).toList == (ByteArray.mk #[]).toList) = decide (d = []) := by
  have h1 : ∀ s : ByteArray, s.toList = s.data.toList := fun s => by
    rw [ByteArray.toList_eq]
  cases d with
  | nil => rw [h1, h1]; simp [encS, bys]
  | cons a d =>
    rw [h1, h1]
    simp [encS, bys, byt4]
theorem s91z (z : Int) : Or (.call 91) [LZ z] [] = some [ti z.sign] := by
  refine orc_of ?_
  rw [e91, encS_nil]
  by_cases h0 : z = 0
  · subst h0; rfl
  · have hn : ¬ dz z = [] := fun h => h0 (dz_nil.1 h)
    rcases Int.lt_trichotomy z 0 with h | h | h
    · simp only [STL, ↓reduceIte, Int.reduceBEq, Int.reduceEq, hn, h, decide_true, Int.sign_eq_neg_one_of_neg h]
    · exact absurd h h0
    · have h' : ¬ z < 0 := by omega
      simp only [STL, ↓reduceIte, Int.reduceBEq, Int.reduceEq, hn, h', decide_false, Int.sign_eq_one_of_pos h]
theorem s89z (z : Int) : Or (.call 89) [LZ z] [] = some (RZ (-z)) := by
  refine orc_of ?_
  rw [e89, encS_nil]
  unfold RZ
  rw [dz_neg]
  have : (bif !decide (z < 0) then !decide (dz z = []) else false) = decide (-z < 0) := by
    have h := @dz_nil z
    by_cases h0 : z < 0
    · have : ¬ -z < 0 := by omega
      rw [decide_eq_true h0, decide_eq_false this]; rfl
    · by_cases h1 : z = 0
      · subst h1; rfl
      · have h2 : -z < 0 := by omega
        rw [decide_eq_false h0, decide_eq_false (mt h.1 h1), decide_eq_true h2]; rfl
  rw [this]
theorem s97z (z : Int) (h : (dz z).length ≤ 1000) : Or (.call 97) [LZ z] [] = some [T.lst 1 false (encD (dz z))] := s97 _ _ (dz_dg z) h
theorem n96 (a b : List Int) (ea eb : Bool) (ha : Dg a) (hb : Dg b) (hl : a.length = b.length) (hn : a.length ≤ 1000) : ∀ (k : Nat) (z : Int), z = (k : Int) - 1 → k ≤ a.length →
    Or K96n6 [lu ea a, lu eb b, I z] [] = some [ti (cmp3 (val (a.take k)) (val (b.take k)))]
  | 0, z, hz, hk => by
    refine orc_of ?_
    rw [e96n6]
    have h1 : ¬ z ≥ 0 := by omega
    simp only [STL, ↓reduceIte, Int.reduceBEq, Int.reduceEq, h1]
    simp [cmp3]
  | k + 1, z, hz, hk => by
    obtain rfl : z = (k : Int) := by omega
    have h1 : (k : Int) ≥ 0 := by omega
    have h2 : 0 ≤ (k : Int) ∧ (k : Int) < (a.length : Int) := by omega
    have h3 : (k : Int) < (b.length : Int) := by omega
    have hw : IntKind.i64.wrap ((k : Int) - 1) = (k : Int) - 1 := i64w (by omega)
    refine orc_of ?_
    rw [e96n6]
    by_cases hlt : dat a k < dat b k
    · have := dat_lt ha hb (show k < a.length by omega) (by omega) hlt
      simp only [STL, ↓reduceIte, Int.reduceBEq, Int.reduceEq, h1, h2, h3, and_self, encD_len, encD_at (show k < a.length by omega), encD_at (show k < b.length by omega), hlt]
      unfold cmp3
      rw [if_pos this]
    · by_cases hgt : dat a k > dat b k
      · have := dat_lt hb ha (show k < b.length by omega) (by omega) hgt
        simp only [STL, ↓reduceIte, Int.reduceBEq, Int.reduceEq, h1, h2, h3, and_self, encD_len, encD_at (show k < a.length by omega), encD_at (show k < b.length by omega), hlt, hgt]
        unfold cmp3
        rw [if_neg (by omega), if_neg (by omega)]
      · have he : dat a k = dat b k := by omega
        have := n96 a b ea eb ha hb hl hn k ((k : Int) - 1) rfl (by omega)
        have hv : cmp3 (val (a.take (k + 1))) (val (b.take (k + 1))) = cmp3 (val (a.take k)) (val (b.take k)) := by
          rw [val_take (by omega), val_take (by omega), he, cmp3_add]
        rw [hv]
        simp only [STL, ↓reduceIte, Int.reduceBEq, Int.reduceEq, h1, h2, h3, and_self, encD_len, encD_at (show k < a.length by omega), encD_at (show k < b.length by omega), hlt, hgt, hw]
        exact this
theorem s96 (a b : List Int) (ea eb : Bool) (ha : Dg a) (hb : Dg b) (ca : Can a) (cb : Can b) (hna : a.length ≤ 1000) (hnb : b.length ≤ 1000) :
    Or (.call 96) [lu ea a, lu eb b] [] = some [ti (cmp3 (val a) (val b))] := by
  refine orc_of ?_
  rw [e96]
  by_cases hl : (a.length : Int) = (b.length : Int)
  · have := n96 a b ea eb ha hb (by omega) hna a.length _ rfl (Nat.le_refl _)
    rw [List.take_length, show b.take a.length = b from List.take_of_length_le (by omega)] at this
    have hw : IntKind.i64.wrap ((a.length : Int) - 1) = (a.length : Int) - 1 := i64w (by omega)
    simp only [encD_len, hw]
    simp only [STL, ↓reduceIte, Int.reduceBEq, Int.reduceEq, hl]
    rw [hl] at this
    exact this
  · by_cases hlt : (a.length : Int) < (b.length : Int)
    · have := len_lt ha hb cb (by omega)
      simp only [STL, ↓reduceIte, Int.reduceBEq, Int.reduceEq, encD_len, hl, hlt]
      unfold cmp3
      rw [if_pos this]
    · have := len_lt hb ha ca (by omega)
      simp only [STL, ↓reduceIte, Int.reduceBEq, Int.reduceEq, encD_len, hl, hlt]
      unfold cmp3
      rw [if_neg (by omega), if_neg (by omega)]
theorem s55z (x y : Int) (hx : (dz x).length ≤ 1000) (hy : (dz y).length ≤ 1000) : Or (.call 55) [LZ x, LZ y] [] = some [ti (cmp3 x y)] := by
  have k1 := s91z x
  have k2 := s91z y
  have k3 := s97z x hx
  have k4 := s97z y hy
  have k5 := s96 (dz x) (dz y) false false (dz_dg x) (dz_dg y) (dz_can x) (dz_can y) hx hy
  have k6 := s96 (dz y) (dz x) false false (dz_dg y) (dz_dg x) (dz_can y) (dz_can x) hy hx
  rw [dz_val, dz_val] at k5 k6
  have key : (if x.sign = y.sign then (if x < 0 then cmp3 (y.natAbs : Int) (x.natAbs : Int) else cmp3 (x.natAbs : Int) (y.natAbs : Int)) else if x.sign < y.sign then -1 else 1) = cmp3 x y := by
    rcases Int.lt_trichotomy x 0 with h | h | h <;> rcases Int.lt_trichotomy y 0 with h' | h' | h' <;>
      (first | rw [Int.sign_eq_neg_one_of_neg h] | rw [Int.sign_eq_one_of_pos h] | rw [h, Int.sign_zero]) <;>
      (first | rw [Int.sign_eq_neg_one_of_neg h'] | rw [Int.sign_eq_one_of_pos h'] | rw [h', Int.sign_zero]) <;> unfold cmp3 <;> (repeat' split) <;> omega
  refine orc_of ?_
  rw [e55]
  simp only [STL, ↓reduceIte, Int.reduceBEq, Int.reduceEq, k1, k2, k3, k4, k5, k6]
  rw [← key]
  split
  · split <;> rfl
  · split <;> rfl
theorem sm4 (n : Nat) (h : n ≤ 100000) : small 4 n = some () := small_ok h
theorem app1 (d : List Int) (v : Int) : encD d ++ [[T.int .u32 v]] = encD (d ++ [v]) := by simp [encD]
theorem app1l (n : Nat) (v : Int) : n + ([[T.int .u32 v]] : List (List T)).length = n + 1 := by simp
theorem n127 (x y : List Int) (ex ey : Bool) (hx : Dg x) (hy : Dg y) (hl : y.length ≤ x.length) (hn : x.length ≤ 1000) : ∀ (xr : List Int) (i : Nat) (c : Int) (done : List Int), x.drop i = xr → done.length = i → i ≤ x.length → 0 ≤ c ∧ c ≤ 1 →
    Or K127n6 [lu ey y, o0, AV.t (T.int .u64 c), lu ex x, I (x.length : Int), I (i : Int)] [Blk.sl false 1 false (encD done)] = some [T.lst 1 false (encD (done ++ sumL xr (y.drop i) c))] := by
  intro xr
  induction xr with
  | nil =>
    intro i c done h hd hi hc
    have hle := at_end h
    obtain rfl : i = x.length := by omega
    have h1 : ¬ (x.length : Int) < (x.length : Int) := by omega
    refine orc_of ?_
    rw [e127n6]
    simp only [STL, ↓reduceIte, Int.reduceBEq, Int.reduceEq, h1, encD_len, w32 (v := c) (by omega), app1, app1l, sm4 (done.length + 1) (by omega), sumL]
  | cons a xr ih =>
    intro i c done h hd hi hc
    obtain ⟨g1, g2, g3⟩ := at_drop h
    have h1 : (i : Int) < (x.length : Int) := by omega
    have h0 : 0 ≤ (i : Int) := by omega
    have ha := hx a (List.mem_of_getElem? g1)
    have hda := dat_of h
    refine orc_of ?_
    rw [e127n6]
    cases hyr : y.drop i with
    | nil =>
      have hyl := at_end hyr
      have h2 : ¬ (i : Int) < (y.length : Int) := by omega
      have hw1 : IntKind.u64.wrap a = a := w64 (by omega)
      have hw2 : IntKind.u64.wrap (c + a) = c + a := w64 (by omega)
      have hy1 : y.drop (i + 1) = [] := by simp; omega
      have := ih (i + 1) ((c + a) / 4294967296) (done ++ [(c + a) % 4294967296]) g3 (by simp [hd]) (by omega) (by omega)
      rw [hy1, show done ++ [(c + a) % 4294967296] ++ sumL xr [] ((c + a) / 4294967296) = done ++ sumL (a :: xr) [] c from by simp [sumL]] at this
      simp only [STL, ↓reduceIte, Int.reduceBEq, Int.reduceEq, h1, h0, and_self, encD_len, encD_at g2, hda, h2, hw1, hw2, wr32, fd32, app1, app1l, sm4 (done.length + 1) (by omega), next i (by omega)]
      exact this
    | cons b yr =>
      obtain ⟨k1, k2, k3⟩ := at_drop hyr
      have hb := hy b (List.mem_of_getElem? k1)
      have hdb := dat_of hyr
      have h2 : (i : Int) < (y.length : Int) := by omega
      have hw1 : IntKind.u64.wrap a = a := w64 (by omega)
      have hw2 : IntKind.u64.wrap (c + a) = c + a := w64 (by omega)
      have hw3 : IntKind.u64.wrap b = b := w64 (by omega)
      have hw4 : IntKind.u64.wrap (c + a + b) = c + a + b := w64 (by omega)
      have := ih (i + 1) ((c + a + b) / 4294967296) (done ++ [(c + a + b) % 4294967296]) g3 (by simp [hd]) (by omega) (by omega)
      rw [k3, show done ++ [(c + a + b) % 4294967296] ++ sumL xr yr ((c + a + b) / 4294967296) = done ++ sumL (a :: xr) (b :: yr) c from by simp [sumL]] at this
      simp only [STL, ↓reduceIte, Int.reduceBEq, Int.reduceEq, h1, h0, and_self, encD_len, encD_at g2, encD_at k2, hda, hdb, h2, hw1, hw2, hw3, hw4, wr32, fd32, app1, app1l, sm4 (done.length + 1) (by omega), next i (by omega)]
      exact this
theorem s127 (x y : List Int) (ex ey : Bool) (hx : Dg x) (hy : Dg y) (hnx : x.length ≤ 900) (hny : y.length ≤ 900) : ∃ d, Or (.call 127) [lu ex x, lu ey y] [] = some [T.lst 1 false (encD d)] ∧ Dg d ∧ val d = val x + val y ∧ d.length ≤ max x.length y.length + 1 := by
  by_cases hl : (x.length : Int) < (y.length : Int)
  · have h1 := n127 y x ey ex hy hx (by omega) (by omega) y 0 0 [] rfl rfl (by omega) (by omega)
    refine ⟨sumL y x 0, orc_of ?_, sumL_dg hy hx (by omega), by rw [sumL_val (by omega)]; omega, by rw [sumL_len]; omega⟩
    have hw : IntKind.i64.wrap ((y.length : Int) + 1) = ((y.length + 1 : Nat) : Int) := next y.length (by omega)
    have hmk : mkOk 0 ((y.length + 1 : Nat) : Int) = some () := by unfold mkOk lim; rw [if_pos (by omega)]
    rw [e127]
    simp only [STL, ↓reduceIte, Int.reduceBEq, Int.reduceEq, encD_len, hl, hw, hmk]
    exact h1
  · have h1 := n127 x y ex ey hx hy (by omega) (by omega) x 0 0 [] rfl rfl (by omega) (by omega)
    refine ⟨sumL x y 0, orc_of ?_, sumL_dg hx hy (by omega), by rw [sumL_val (by omega)]; omega, by rw [sumL_len]; omega⟩
    have hw : IntKind.i64.wrap ((x.length : Int) + 1) = ((x.length + 1 : Nat) : Int) := next x.length (by omega)
    have hmk : mkOk 0 ((x.length + 1 : Nat) : Int) = some () := by unfold mkOk lim; rw [if_pos (by omega)]
    rw [e127]
    simp only [STL, ↓reduceIte, Int.reduceBEq, Int.reduceEq, encD_len, hl, hw, hmk]
    exact h1
theorem n128 (x y : List Int) (ex ey : Bool) (hx : Dg x) (hy : Dg y) (hn : x.length ≤ 1000) : ∀ (xr : List Int) (i : Nat) (c : Int) (done : List Int), x.drop i = xr → done.length = i → 0 ≤ c ∧ c ≤ 1 →
    Or K128n4 [lu ey y, o0, I c, lu ex x, I (x.length : Int), I (i : Int)] [Blk.sl false 1 false (encD done)] = some [T.lst 1 false (encD (done ++ lessL xr (y.drop i) c))] := by
  intro xr
  induction xr with
  | nil =>
    intro i c done h hd hc
    have hle := at_end h
    have h1 : ¬ (i : Int) < (x.length : Int) := by omega
    refine orc_of ?_
    rw [e128n4]
    simp only [STL, ↓reduceIte, Int.reduceBEq, Int.reduceEq, h1]
    simp [lessL]
  | cons a xr ih =>
    intro i c done h hd hc
    obtain ⟨g1, g2, g3⟩ := at_drop h
    have h1 : (i : Int) < (x.length : Int) := by omega
    have h0 : 0 ≤ (i : Int) := by omega
    have ha := hx a (List.mem_of_getElem? g1)
    have hda := dat_of h
    have hw1 : IntKind.i64.wrap a = a := i64w (by omega)
    have hw2 : IntKind.i64.wrap (a - c) = a - c := i64w (by omega)
    refine orc_of ?_
    rw [e128n4]
    cases hyr : y.drop i with
    | nil =>
      have hyl := at_end hyr
      have h2 : ¬ (i : Int) < (y.length : Int) := by omega
      have hy1 : y.drop (i + 1) = [] := by simp; omega
      have := ih (i + 1) (bor (a - c)) (done ++ [(a - c) % 4294967296]) g3 (by simp [hd]) (by unfold bor; split <;> omega)
      rw [hy1, show done ++ [(a - c) % 4294967296] ++ lessL xr [] (bor (a - c)) = done ++ lessL (a :: xr) [] c from by simp [lessL]] at this
      by_cases hn : a - c < 0
      · have hv : IntKind.u32.wrap (IntKind.i64.wrap (a - c + 4294967296)) = (a - c) % 4294967296 := by rw [wr32, i64w (by omega)]; omega
        unfold bor at this
        rw [if_pos hn] at this
        simp only [STL, ↓reduceIte, Int.reduceBEq, Int.reduceEq, h1, h0, and_self, encD_len, encD_at g2, hda, h2, hw1, hw2, hn, hv, app1, app1l, sm4 (done.length + 1) (by omega), next i (by omega)]
        exact this
      · have hv : IntKind.u32.wrap (a - c) = (a - c) % 4294967296 := wr32 _
        unfold bor at this
        rw [if_neg hn] at this
        simp only [STL, ↓reduceIte, Int.reduceBEq, Int.reduceEq, h1, h0, and_self, encD_len, encD_at g2, hda, h2, hw1, hw2, hn, hv, app1, app1l, sm4 (done.length + 1) (by omega), next i (by omega)]
        exact this
    | cons b yr =>
      obtain ⟨k1, k2, k3⟩ := at_drop hyr
      have hb := hy b (List.mem_of_getElem? k1)
      have hdb := dat_of hyr
      have h2 : (i : Int) < (y.length : Int) := by omega
      have hw3 : IntKind.i64.wrap b = b := i64w (by omega)
      have hw4 : IntKind.i64.wrap (a - c - b) = a - c - b := i64w (by omega)
      have := ih (i + 1) (bor (a - c - b)) (done ++ [(a - c - b) % 4294967296]) g3 (by simp [hd]) (by unfold bor; split <;> omega)
      rw [k3, show done ++ [(a - c - b) % 4294967296] ++ lessL xr yr (bor (a - c - b)) = done ++ lessL (a :: xr) (b :: yr) c from by simp [lessL]] at this
      by_cases hn : a - c - b < 0
      · have hv : IntKind.u32.wrap (IntKind.i64.wrap (a - c - b + 4294967296)) = (a - c - b) % 4294967296 := by rw [wr32, i64w (by omega)]; omega
        unfold bor at this
        rw [if_pos hn] at this
        simp only [STL, ↓reduceIte, Int.reduceBEq, Int.reduceEq, h1, h0, and_self, encD_len, encD_at g2, encD_at k2, hda, hdb, h2, hw1, hw2, hw3, hw4, hn, hv, app1, app1l, sm4 (done.length + 1) (by omega), next i (by omega)]
        exact this
      · have hv : IntKind.u32.wrap (a - c - b) = (a - c - b) % 4294967296 := wr32 _
        unfold bor at this
        rw [if_neg hn] at this
        simp only [STL, ↓reduceIte, Int.reduceBEq, Int.reduceEq, h1, h0, and_self, encD_len, encD_at g2, encD_at k2, hda, hdb, h2, hw1, hw2, hw3, hw4, hn, hv, app1, app1l, sm4 (done.length + 1) (by omega), next i (by omega)]
        exact this
theorem s128 (x y : List Int) (ex ey : Bool) (hx : Dg x) (hy : Dg y) (hl : y.length ≤ x.length) (hv : val y ≤ val x) (hn : x.length ≤ 900) : ∃ d, Or (.call 128) [lu ex x, lu ey y] [] = some [T.lst 1 false (encD d)] ∧ Dg d ∧ val d = val x - val y ∧ d.length = x.length := by
  have h1 := n128 x y ex ey hx hy (by omega) x 0 0 [] rfl rfl (by omega)
  refine ⟨lessL x y 0, orc_of ?_, lessL_dg, by rw [lessL_val hx hy hl (by omega) (by omega)]; omega, lessL_len⟩
  have hmk : mkOk 0 (x.length : Int) = some () := by unfold mkOk lim; rw [if_pos (by omega)]
  rw [e128]
  simp only [STL, ↓reduceIte, Int.reduceBEq, Int.reduceEq, encD_len, hmk]
  exact h1
theorem dz_le {x y : Int} (h : y.natAbs ≤ x.natAbs) : (dz y).length ≤ (dz x).length := by
  rcases Nat.lt_or_ge (dz x).length (dz y).length with h1 | h1
  · have := len_lt (dz_dg x) (dz_dg y) (dz_can y) h1
    rw [dz_val, dz_val] at this; omega
  · exact h1
theorem s114 (x y : Int) (hx : (dz x).length ≤ 900) (hy : (dz y).length ≤ 900) : Or (.call 114) [LZ x, LZ y] [] = some (RZ (x + y)) := by
  have k1 := s97z x (by omega)
  have k2 := s97z y (by omega)
  refine orc_of ?_
  rw [e114]
  by_cases hs : decide (x < 0) = decide (y < 0)
  · obtain ⟨d, d1, d2, d3, d4⟩ := s127 (dz x) (dz y) false false (dz_dg x) (dz_dg y) hx hy
    have k3 := s90 (decide (x < 0)) false d d2 (by omega)
    have hb : (decide (x < 0) == decide (y < 0)) = true := by simpa using hs
    have hv : (if decide (x < 0) = true then -val d else val d) = x + y := by
      rw [d3, dz_val, dz_val]
      simp only [decide_eq_true_eq]
      have hs' : x < 0 ↔ y < 0 := by simpa using hs
      split <;> omega
    rw [hv] at k3
    unfold RZ at k3
    simp only [STL, ↓reduceIte, Int.reduceBEq, Int.reduceEq, k1, k2, hb, d1, k3]
    rfl
  · have hb : (decide (x < 0) == decide (y < 0)) = false := by simpa using hs
    have hs' : ¬ (x < 0 ↔ y < 0) := by simpa using hs
    have k3 := s96 (dz x) (dz y) false false (dz_dg x) (dz_dg y) (dz_can x) (dz_can y) (by omega) (by omega)
    rw [dz_val, dz_val] at k3
    by_cases hc : (y.natAbs : Int) ≤ (x.natAbs : Int)
    · have hge : cmp3 (x.natAbs : Int) (y.natAbs : Int) ≥ 0 := by unfold cmp3; rw [if_neg (by omega)]; split <;> omega
      obtain ⟨d, d1, d2, d3, d4⟩ := s128 (dz x) (dz y) false false (dz_dg x) (dz_dg y) (dz_le (by omega)) (by rw [dz_val, dz_val]; exact hc) hx
      have k4 := s90 (decide (x < 0)) false d d2 (by omega)
      have hv : (if decide (x < 0) = true then -val d else val d) = x + y := by
        rw [d3, dz_val, dz_val]
        simp only [decide_eq_true_eq]
        split <;> omega
      rw [hv] at k4
      unfold RZ at k4
      simp only [STL, ↓reduceIte, Int.reduceBEq, Int.reduceEq, k1, k2, hb, k3, hge, d1, k4]
      rfl
    · have hge : ¬ cmp3 (x.natAbs : Int) (y.natAbs : Int) ≥ 0 := by unfold cmp3; rw [if_pos (by omega)]; omega
      obtain ⟨d, d1, d2, d3, d4⟩ := s128 (dz y) (dz x) false false (dz_dg y) (dz_dg x) (dz_le (by omega)) (by rw [dz_val, dz_val]; omega) hy
      have k4 := s90 (decide (y < 0)) false d d2 (by omega)
      have hv : (if decide (y < 0) = true then -val d else val d) = x + y := by
        rw [d3, dz_val, dz_val]
        simp only [decide_eq_true_eq]
        split <;> omega
      rw [hv] at k4
      unfold RZ at k4
      simp only [STL, ↓reduceIte, Int.reduceBEq, Int.reduceEq, k1, k2, hb, k3, hge, d1, k4]
      rfl
theorem L8_ok : ∀ n, n < 256 → ∃ u, L8[n]? = some u ∧ u.toNat ≤ 8 ∧ n < 2 ^ u.toNat ∧ (n ≠ 0 → 2 ^ u.toNat ≤ 2 * n) := by
  have : ∀ n, n < 256 → (match L8[n]? with | some u => decide (u.toNat ≤ 8 ∧ n < 2 ^ u.toNat ∧ (n ≠ 0 → 2 ^ u.toNat ≤ 2 * n)) | none => false) = true := by decide +kernel
  intro n hn
  have h := this n hn
  cases hu : L8[n]? with
  | none => rw [hu] at h; cases h
  | some u => rw [hu] at h; exact ⟨u, rfl, of_decide_eq_true h⟩
set_option maxRecDepth 100000 in
/-- Len32. -/
theorem s129 (a : Int) (ha : 0 ≤ a ∧ a < 4294967296) : ∃ n : Nat, Or (.call 129) [AV.t (T.int .u32 a)] [] = some [ti (n : Int)] ∧ n ≤ 32 ∧ a < 2 ^ n ∧ (a ≠ 0 → (2 : Int) ^ n ≤ 2 * a) := by
  have p8 : (2 : Int) ^ 8 = 256 := by decide
  have p16 : (2 : Int) ^ 16 = 65536 := by decide
  have f8 : ∀ v : Int, v.fdiv 256 = v / 256 := fun v => Int.fdiv_eq_ediv_of_nonneg _ (by omega)
  have f16 : ∀ v : Int, v.fdiv 65536 = v / 65536 := fun v => Int.fdiv_eq_ediv_of_nonneg _ (by omega)
  have fin : ∀ (k : Nat) (n : Nat) (u : UInt8), k ≤ 24 → n < 256 → (n : Int) = a / 2 ^ k → (k ≠ 0 → n ≠ 0) → u.toNat ≤ 8 ∧ n < 2 ^ u.toNat ∧ (n ≠ 0 → 2 ^ u.toNat ≤ 2 * n) →
      (k + u.toNat) ≤ 32 ∧ a < (2 : Int) ^ (k + u.toNat) ∧ (a ≠ 0 → (2 : Int) ^ (k + u.toNat) ≤ 2 * a) := by
    intro k n u hk hn he hne h
    have hp := pw_pos k
    obtain ⟨h1, h2, h3⟩ := h
    have h2' : (n : Int) + 1 ≤ (2 : Int) ^ u.toNat := by rw [pw2]; omega
    have d1 : a < (2 : Int) ^ k * ((n : Int) + 1) := by
      rw [he]
      have := Int.lt_mul_ediv_self_add (x := a) hp
      rw [Int.mul_add, Int.mul_one]; exact this
    have d2 : (2 : Int) ^ k * (n : Int) ≤ a := by rw [he]; exact Int.mul_ediv_self_le (by omega)
    refine ⟨by omega, ?_, fun h0 => ?_⟩
    · rw [Int.pow_add]
      have := Int.mul_le_mul_of_nonneg_left h2' (Int.le_of_lt hp)
      omega
    · have hn0 : n ≠ 0 := by
        rcases Nat.eq_zero_or_pos k with hk0 | hk0
        · subst hk0
          rw [Int.pow_zero, Int.ediv_one] at he; omega
        · exact hne (by omega)
      have h3' : (2 : Int) ^ u.toNat ≤ 2 * (n : Int) := by rw [pw2]; have := h3 hn0; omega
      rw [Int.pow_add]
      have := Int.mul_le_mul_of_nonneg_left h3' (Int.le_of_lt hp)
      rw [Int.mul_left_comm] at this
      omega
  by_cases h16 : a ≥ 65536
  · by_cases h24 : a / 65536 ≥ 256
    · have hn : (a / 65536 / 256).toNat < 256 := by omega
      obtain ⟨u, u1, u2⟩ := L8_ok _ hn
      have hw : IntKind.u8.wrap (a / 65536 / 256) = a / 65536 / 256 := by rw [w8]; omega
      have hr : 0 ≤ a / 65536 / 256 ∧ a / 65536 / 256 < 256 := by omega
      have hw2 : IntKind.i64.wrap (IntKind.i64.wrap (16 + 8) + IntKind.i64.wrap (u.toNat : Int)) = ((24 + u.toNat : Nat) : Int) := by
        rw [i64w (v := 16 + 8) (by omega), i64w (v := (u.toNat : Int)) (by omega), i64w (by omega)]; omega
      refine ⟨24 + u.toNat, orc_of ?_, fin 24 _ u (by omega) hn (by rw [show ((2 : Int) ^ 24) = 16777216 from by decide]; omega) (fun _ => by omega) u2⟩
      rw [e129]
      simp only [STL, ↓reduceIte, Int.reduceBEq, Int.reduceEq, h16, p8, p16, f8, f16, h24, hw, hr, and_self, u1, hw2]
    · have hn : (a / 65536).toNat < 256 := by omega
      obtain ⟨u, u1, u2⟩ := L8_ok _ hn
      have hw : IntKind.u8.wrap (a / 65536) = a / 65536 := by rw [w8]; omega
      have hr : 0 ≤ a / 65536 ∧ a / 65536 < 256 := by omega
      have hw2 : IntKind.i64.wrap (16 + IntKind.i64.wrap (u.toNat : Int)) = ((16 + u.toNat : Nat) : Int) := by
        rw [i64w (v := (u.toNat : Int)) (by omega), i64w (by omega)]; omega
      refine ⟨16 + u.toNat, orc_of ?_, fin 16 _ u (by omega) hn (by rw [p16]; omega) (fun _ => by omega) u2⟩
      rw [e129]
      simp only [STL, ↓reduceIte, Int.reduceBEq, Int.reduceEq, h16, p8, p16, f8, f16, h24, hw, hr, and_self, u1, hw2]
  · by_cases h24 : a ≥ 256
    · have hn : (a / 256).toNat < 256 := by omega
      obtain ⟨u, u1, u2⟩ := L8_ok _ hn
      have hw : IntKind.u8.wrap (a / 256) = a / 256 := by rw [w8]; omega
      have hr : 0 ≤ a / 256 ∧ a / 256 < 256 := by omega
      have hw2 : IntKind.i64.wrap (IntKind.i64.wrap (0 + 8) + IntKind.i64.wrap (u.toNat : Int)) = ((8 + u.toNat : Nat) : Int) := by
        rw [i64w (v := 0 + 8) (by omega), i64w (v := (u.toNat : Int)) (by omega), i64w (by omega)]; omega
      refine ⟨8 + u.toNat, orc_of ?_, fin 8 _ u (by omega) hn (by rw [p8]; omega) (fun _ => by omega) u2⟩
      rw [e129]
      simp only [STL, ↓reduceIte, Int.reduceBEq, Int.reduceEq, h16, p8, p16, f8, f16, h24, hw, hr, and_self, u1, hw2]
    · have hn : a.toNat < 256 := by omega
      obtain ⟨u, u1, u2⟩ := L8_ok _ hn
      have hw : IntKind.u8.wrap a = a := by rw [w8]; omega
      have hr : 0 ≤ a ∧ a < 256 := by omega
      have hw2 : IntKind.i64.wrap (IntKind.i64.wrap (u.toNat : Int)) = ((0 + u.toNat : Nat) : Int) := by
        rw [i64w (v := (u.toNat : Int)) (by omega), i64w (by omega)]; omega
      have hw3 : IntKind.i64.wrap (0 + IntKind.i64.wrap (u.toNat : Int)) = ((0 + u.toNat : Nat) : Int) := by
        rw [i64w (v := (u.toNat : Int)) (by omega), i64w (by omega)]; omega
      refine ⟨0 + u.toNat, orc_of ?_, fin 0 _ u (by omega) hn (by rw [Int.pow_zero]; omega) (fun h => absurd rfl h) u2⟩
      rw [e129]
      simp only [STL, ↓reduceIte, Int.reduceBEq, Int.reduceEq, h16, p8, p16, f8, f16, h24, hw, hr, and_self, u1, hw2, hw3]
end Go.Aev.Wd.Lg
