import Derived.Test.YtobpninhnmmpeaaGreatAwayUpQ5
set_option linter.unusedSimpArgs false
set_option linter.unusedVariables false
namespace Go.Aev.Wd
open Go Go.Aev Go.Aev.Gen
noncomputable abbrev K51n2m2 : Key := nodeKey PROG 98 true 2 [(0, none), (3, none)] (2, 1002)
noncomputable abbrev K51n2m1 : Key := nodeKey PROG 98 true 2 [(0, none), (3, none)] (1, 2)
noncomputable abbrev K37n3m1 : Key := nodeKey PROG 72 true 3 [(0, none), (1, none), (2, none), (7, none), (28, none), (29, none), (30, none)] (1, 2)
noncomputable abbrev K37n7m1 : Key := nodeKey PROG 72 true 7 [(0, none), (1, none), (2, none), (7, none), (8, none), (9, none), (10, none), (28, none), (29, none), (30, none), (38, none), (39, none), (40, none)] (1, 2)
noncomputable abbrev K66n6 : Key := nodeKey PROG 105 true 6 [(0, none), (1, none), (5, none), (6, none), (20, none), (21, none), (22, none)] (0, 0)
noncomputable abbrev K68n4 : Key := nodeKey PROG 106 true 4 [(1, none), (5, none), (6, none), (13, none), (14, none), (15, none)] (0, 0)
noncomputable abbrev K67n6 : Key := nodeKey PROG 65 true 6 [(0, none), (1, none), (5, none)] (0, 0)
noncomputable abbrev K53n3 : Key := nodeKey PROG 60 true 3 [(0, none), (3, none), (4, none)] (0, 0)
noncomputable abbrev K54n2m1 : Key := nodeKey PROG 26 true 2 [(0, none), (11, some 0), (12, some 0)] (1, 2)
noncomputable abbrev K54n5m1 : Key := nodeKey PROG 26 true 5 [(0, none), (13, none), (14, none)] (1, 2)
noncomputable abbrev K41n3 : Key := nodeKey PROG 85 true 3 [(0, none), (1, none), (5, some 0), (6, none)] (0, 0)
noncomputable abbrev K79n3 : Key := nodeKey PROG 131 true 3 [(1, none), (5, none), (16, none), (17, none), (18, none)] (0, 0)
noncomputable abbrev K80n6 : Key := nodeKey PROG 132 true 6 [(0, none), (1, none), (5, none), (20, none), (21, none), (22, none)] (0, 0)
noncomputable abbrev K78n4 : Key := nodeKey PROG 130 true 4 [(0, none), (1, none), (6, none), (7, none), (8, none)] (0, 0)
noncomputable abbrev K78n11 : Key := nodeKey PROG 130 true 11 [(0, none), (1, none), (9, none)] (0, 0)
noncomputable abbrev K78n17 : Key := nodeKey PROG 130 true 17 [(9, none), (10, none), (11, some 0), (12, none), (13, none), (14, none)] (0, 0)
noncomputable abbrev K78n21 : Key := nodeKey PROG 130 true 21 [(9, none), (10, none), (11, some 0), (12, none), (13, none), (14, none), (16, none), (17, none)] (0, 0)
noncomputable abbrev K78n27 : Key := nodeKey PROG 130 true 27 [(9, none), (10, none), (11, some 0), (12, none), (13, none), (14, none), (16, none), (18, none), (19, none), (172, none), (173, none), (174, none)] (0, 0)
noncomputable abbrev K78n41 : Key := nodeKey PROG 130 true 41 [(9, none), (10, none), (11, some 0), (12, none), (13, none), (14, none), (16, none), (18, none), (233, none), (234, none), (235, none)] (0, 0)
theorem e35 (O : Orc) (n : Int) : stepO PROG ann O (Key.call 27) [I n] [] =
  (gdK none (O (Key.call 64) [AV.ref (Id.c 0) 0, I n] [Blk.box [B false, AV.t (T.emp true)]]) fun l => gdK none l.head? fun x => gdK none (List.drop 1 l).head? fun x => gdK none x.bool? fun b => gdK none (List.drop 1
 l).tail.head? fun x => gdK none (T.lst? 1 x) fun p => some [T.ptr [T.bool b, T.lst 1 p.fst p.snd]]) := by kernel_rfl
theorem e48 (O : Orc) (s : Bool) (y : T) (n : Int) : stepO PROG ann O (Key.call 64) [AV.ref (Id.c 0) 0, I n] [Blk.box [B s, AV.t y]] =
  (bif decide (n < (0 : Int)) then gdK none (O (Key.call 61) [AV.ref (Id.c 0) 0, AV.t (T.int IntKind.u64 (IntKind.u64.wrap ((0 : Int) - IntKind.u64.wrap n)))] [Blk.box [B s, AV.t y]]) fun l => gdK none l.head? fun x => gdK
 none (List.drop 1 l).head? fun x => gdK none x.bool? fun b => gdK none (List.drop 1 l).tail.head? fun x => gdK none (T.lst? 1 x) fun p => some [T.nilp, T.bool true, T.lst 1 p.fst p.snd] else gdK none (O (Key.call 61)
 [AV.ref (Id.c 0) 0, AV.t (T.int IntKind.u64 (IntKind.u64.wrap n))] [Blk.box [B s, AV.t y]]) fun l => gdK none l.head? fun x => gdK none (List.drop 1 l).head? fun x => gdK none x.bool? fun b => gdK none (List.drop 1
 l).tail.head? fun x => gdK none (T.lst? 1 x) fun p => some [T.nilp, T.bool b, T.lst 1 p.fst p.snd]) := by kernel_rfl
theorem e65 (O : Orc) (s : Bool) (y : T) (n : Int) : stepO PROG ann O (Key.call 61) [AV.ref (Id.c 0) 0, AV.t (T.int .u64 n)] [Blk.box [B s, AV.t y]] =
  (gdK none (O (Key.call 98) [AV.ref (Id.c 0) 0] [Blk.box [B false, AV.own (Id.c 1)], Blk.sl false 1 false [[T.int IntKind.u32 (IntKind.u32.wrap n)], [T.int IntKind.u32 (IntKind.u32.wrap (n.fdiv ((2 : Int) ^ 32)))]]]) fun l
 => gdK none l.head? fun x => gdK none (List.drop 1 l).head? fun x => gdK none x.bool? fun b => gdK none (List.drop 1 l).tail.head? fun x => gdK none (T.lst? 1 x) fun p => some [T.nilp, T.bool b, T.lst 1 p.fst p.snd]) := by kernel_rfl
theorem e51 (O : Orc) (s : Bool) (e : Bool) (d : List (List T)) : stepO PROG ann O (Key.call 98) [AV.ref (Id.c 0) 0] [Blk.box [B s, AV.own (Id.c 1)], Blk.sl false 1 e d] =
  (O K51n2m2 [AV.ref (Id.c 0) 0, I (↑d.length : Int)] [Blk.box [B s, AV.own (Id.c 1)], Blk.sl false 1 e d]) := by kernel_rfl
theorem e51n2 (O : Orc) (v3 : Int) (c0_0 : Bool) (ec1 : Bool) (c1 : List (List T)) : stepO PROG ann O K51n2m2 [(AV.ref (Id.c 0) 0), (I v3)] [(Blk.box [(B c0_0), (AV.own (Id.c 1))]), (Blk.sl false 1 ec1 c1)] =
  (gdK (some (decide (v3 > (0 : Int)))) (if (0 : Int) ≤ IntKind.i64.wrap (v3 - (1 : Int)) ∧ IntKind.i64.wrap (v3 - (1 : Int)) < (↑c1.length : Int) then some () else none) fun x => gdK (some (decide (v3 > (0 : Int))))
 c1[(IntKind.i64.wrap (v3 - (1 : Int))).toNat]? fun l => gdK (some (decide (v3 > (0 : Int)))) l.head? fun x => gdK (some (decide (v3 > (0 : Int)))) (T.int? IntKind.u32 x) fun n => bif bif decide (v3 > (0 : Int)) then n ==
 (0 : Int) else false then O K51n2m2 [AV.ref (Id.c 0) 0, I (IntKind.i64.wrap (v3 - (1 : Int)))] [Blk.box [B c0_0, AV.own (Id.c 1)], Blk.sl false 1 ec1 c1] else gdK none (inB (0 : Int) v3 (↑c1.length : Int)) fun x => bif v3
 == (0 : Int) then some [T.nilp, T.bool false, T.lst 1 ec1 (List.take (v3.toNat - 0) c1)] else some [T.nilp, T.bool c0_0, T.lst 1 ec1 (List.take (v3.toNat - 0) c1)]) := by kernel_rfl
theorem e51t (O : Orc) (s : Bool) (e : Bool) (d : List (List T)) : stepO PROG ann O (Key.call 98) [AV.ref (Id.c 0) 0] [Blk.box [B s, AV.t (T.lst 1 e d)]] =
  (O K51n2m1 [AV.ref (Id.c 0) 0, I (↑d.length : Int)] [Blk.box [B s, AV.t (T.lst 1 e d)]]) := by kernel_rfl
theorem e51n2s2 (O : Orc) (v3 : Int) (c0_0 : Bool) (ec0_1 : Bool) (c0_1 : List (List T)) : stepO PROG ann O K51n2m1 [(AV.ref (Id.c 0) 0), (I v3)] [(Blk.box [(B c0_0), (AV.t (T.lst 1 ec0_1 c0_1))])] =
  (gdK (some (decide (v3 > (0 : Int)))) (if (0 : Int) ≤ IntKind.i64.wrap (v3 - (1 : Int)) ∧ IntKind.i64.wrap (v3 - (1 : Int)) < (↑c0_1.length : Int) then some () else none) fun x => gdK (some (decide (v3 > (0 : Int))))
 c0_1[(IntKind.i64.wrap (v3 - (1 : Int))).toNat]? fun l => gdK (some (decide (v3 > (0 : Int)))) l.head? fun x => gdK (some (decide (v3 > (0 : Int)))) (T.int? IntKind.u32 x) fun n => bif bif decide (v3 > (0 : Int)) then n
 == (0 : Int) else false then O K51n2m1 [AV.ref (Id.c 0) 0, I (IntKind.i64.wrap (v3 - (1 : Int)))] [Blk.box [B c0_0, AV.t (T.lst 1 ec0_1 c0_1)]] else gdK none (inB (0 : Int) v3 (↑c0_1.length : Int)) fun x => bif v3 == (0 :
 Int) then some [T.nilp, T.bool false, T.lst 1 ec0_1 (sub (0 : Int) v3 c0_1)] else some [T.nilp, T.bool c0_0, T.lst 1 ec0_1 (sub (0 : Int) v3 c0_1)]) := by kernel_rfl
theorem e69 (O : Orc) (s : Bool) (y : T) (s2 : Bool) (eq2 : Bool) (d2 : List (List T)) : stepO PROG ann O (Key.call 63) [AV.ref (Id.c 0) 0, AV.t (T.ptr [T.bool s2, T.lst 1 eq2 d2])] [Blk.box [B s, AV.t y]] =
  (gdK none (small 4 d2.length) fun x => some [T.nilp, T.bool s2, T.lst 1 false d2]) := by kernel_rfl
theorem e50 (O : Orc) (s : Bool) (y : T) (s2 : Bool) (eq2 : Bool) (d2 : List (List T)) : stepO PROG ann O (Key.call 103) [AV.ref (Id.c 0) 0, AV.t (T.ptr [T.bool s2, T.lst 1 eq2 d2])] [Blk.box [B s, AV.t y]] =
  (gdK none (O (Key.call 63) [AV.ref (Id.c 0) 0, AV.t (T.ptr [T.bool s2, T.lst 1 eq2 d2])] [Blk.box [B s, AV.t y]]) fun l => gdK none l.head? fun x => gdK none (List.drop 1 l).head? fun x => gdK none x.bool? fun b => gdK none
 (List.drop 1 l).tail.head? fun x => gdK none (T.lst? 1 x) fun p => some [T.nilp, T.bool (bif !b then decide ((↑p.snd.length : Int) > (0 : Int)) else false), T.lst 1 p.fst p.snd]) := by kernel_rfl
theorem e49 (O : Orc) (s : Bool) (y : T) (s2 : Bool) (eq2 : Bool) (d2 : List (List T)) (s3 : Bool) (eq3 : Bool) (d3 : List (List T)) : stepO PROG ann O (Key.call 75) [AV.ref (Id.c 0) 0, AV.t (T.ptr [T.bool s2, T.lst 1 eq2 d2]), AV.t (T.ptr [T.bool s3, T.lst 1 eq3 d3])] [Blk.box [B s, AV.t y]] =
  (bif s2 == s3 then gdK none (O (Key.call 105) [AV.t (T.lst 1 eq2 d2), AV.t (T.lst 1 eq3 d3)] []) fun l => gdK none l.head? fun x => gdK none (T.lst? 1 x) fun p => gdK none (O (Key.call 98) [AV.ref (Id.c 0) 0] [Blk.box [B s2,
 AV.own (Id.c 1)], Blk.sl false 1 p.fst p.snd]) fun l => gdK none l.head? fun x => gdK none (List.drop 1 l).head? fun x => gdK none x.bool? fun b => gdK none (List.drop 1 l).tail.head? fun x => gdK none (T.lst? 1 x) fun p
 => some [T.nilp, T.bool b, T.lst 1 p.fst p.snd] else gdK none (O (Key.call 65) [AV.t (T.ptr [T.bool s2, T.lst 1 eq2 d2]), AV.t (T.ptr [T.bool s3, T.lst 1 eq3 d3])] []) fun l => gdK none l.head? fun x => gdK none (T.int?
 IntKind.i64 x) fun n => bif decide (n ≥ (0 : Int)) then gdK none (O (Key.call 106) [AV.t (T.lst 1 eq2 d2), AV.t (T.lst 1 eq3 d3)] []) fun l => gdK none l.head? fun x => gdK none (T.lst? 1 x) fun p => gdK none (O (Key.call
 98) [AV.ref (Id.c 0) 0] [Blk.box [B s2, AV.own (Id.c 1)], Blk.sl false 1 p.fst p.snd]) fun l => gdK none l.head? fun x => gdK none (List.drop 1 l).head? fun x => gdK none x.bool? fun b => gdK none (List.drop 1
 l).tail.head? fun x => gdK none (T.lst? 1 x) fun p => some [T.nilp, T.bool b, T.lst 1 p.fst p.snd] else gdK none (O (Key.call 106) [AV.t (T.lst 1 eq3 d3), AV.t (T.lst 1 eq2 d2)] []) fun l => gdK none l.head? fun x => gdK
 none (T.lst? 1 x) fun p => gdK none (O (Key.call 98) [AV.ref (Id.c 0) 0] [Blk.box [B s3, AV.own (Id.c 1)], Blk.sl false 1 p.fst p.snd]) fun l => gdK none l.head? fun x => gdK none (List.drop 1 l).head? fun x => gdK none
 x.bool? fun b => gdK none (List.drop 1 l).tail.head? fun x => gdK none (T.lst? 1 x) fun p => some [T.nilp, T.bool b, T.lst 1 p.fst p.snd]) := by kernel_rfl
theorem e49z (O : Orc) (s : Bool) (e : Bool) (d : List (List T)) (s3 : Bool) (eq3 : Bool) (d3 : List (List T)) : stepO PROG ann O (Key.call 75) [AV.ref (Id.c 0) 0, AV.ref (Id.c 0) 0, AV.t (T.ptr [T.bool s3, T.lst 1 eq3 d3])] [Blk.box [B s, AV.t (T.lst 1 e d)]] =
  (bif s == s3 then gdK none (O (Key.call 105) [AV.t (T.lst 1 e d), AV.t (T.lst 1 eq3 d3)] []) fun l => gdK none l.head? fun x => gdK none (T.lst? 1 x) fun p => gdK none (O (Key.call 98) [AV.ref (Id.c 0) 0] [Blk.box [B s,
 AV.own (Id.c 1)], Blk.sl false 1 p.fst p.snd]) fun l => gdK none l.head? fun x => gdK none (List.drop 1 l).head? fun x => gdK none x.bool? fun b => gdK none (List.drop 1 l).tail.head? fun x => gdK none (T.lst? 1 x) fun p
 => some [T.nilp, T.bool b, T.lst 1 p.fst p.snd] else gdK none (O (Key.call 65) [AV.t (T.ptr [T.bool s, T.lst 1 e d]), AV.t (T.ptr [T.bool s3, T.lst 1 eq3 d3])] []) fun l => gdK none l.head? fun x => gdK none (T.int?
 IntKind.i64 x) fun n => bif decide (n ≥ (0 : Int)) then gdK none (O (Key.call 106) [AV.t (T.lst 1 e d), AV.t (T.lst 1 eq3 d3)] []) fun l => gdK none l.head? fun x => gdK none (T.lst? 1 x) fun p => gdK none (O (Key.call 98)
 [AV.ref (Id.c 0) 0] [Blk.box [B s, AV.own (Id.c 1)], Blk.sl false 1 p.fst p.snd]) fun l => gdK none l.head? fun x => gdK none (List.drop 1 l).head? fun x => gdK none x.bool? fun b => gdK none (List.drop 1 l).tail.head?
 fun x => gdK none (T.lst? 1 x) fun p => some [T.nilp, T.bool b, T.lst 1 p.fst p.snd] else gdK none (O (Key.call 106) [AV.t (T.lst 1 eq3 d3), AV.t (T.lst 1 e d)] []) fun l => gdK none l.head? fun x => gdK none (T.lst? 1 x)
 fun p => gdK none (O (Key.call 98) [AV.ref (Id.c 0) 0] [Blk.box [B s3, AV.own (Id.c 1)], Blk.sl false 1 p.fst p.snd]) fun l => gdK none l.head? fun x => gdK none (List.drop 1 l).head? fun x => gdK none x.bool? fun b =>
 gdK none (List.drop 1 l).tail.head? fun x => gdK none (T.lst? 1 x) fun p => some [T.nilp, T.bool b, T.lst 1 p.fst p.snd]) := by kernel_rfl
theorem e36 (O : Orc) (s : Bool) (y : T) (s2 : Bool) (eq2 : Bool) (d2 : List (List T)) (s3 : Bool) (eq3 : Bool) (d3 : List (List T)) : stepO PROG ann O (Key.call 120) [AV.ref (Id.c 0) 0, AV.t (T.ptr [T.bool s2, T.lst 1 eq2 d2]), AV.t (T.ptr [T.bool s3, T.lst 1 eq3 d3])] [Blk.box [B s, AV.t y]] =
  (gdK none (O (Key.call 103) [AV.ref (Id.c 0) 0, AV.t (T.ptr [T.bool s3, T.lst 1 eq3 d3])] [Blk.box [B false, AV.t (T.emp true)]]) fun l => gdK none l.head? fun x => gdK none (List.drop 1 l).head? fun x => gdK none x.bool?
 fun b => gdK none (List.drop 1 l).tail.head? fun x => gdK none (T.lst? 1 x) fun p => gdK none (O (Key.call 75) [AV.ref (Id.c 0) 0, AV.t (T.ptr [T.bool s2, T.lst 1 eq2 d2]), AV.t (T.ptr [T.bool b, T.lst 1 p.fst p.snd])]
 [Blk.box [B s, AV.t y]]) fun l => gdK none l.head? fun x => gdK none (List.drop 1 l).head? fun x => gdK none x.bool? fun b => gdK none (List.drop 1 l).tail.head? fun x => gdK none (T.lst? 1 x) fun p => some [T.nilp,
 T.bool b, T.lst 1 p.fst p.snd]) := by kernel_rfl
theorem e36z (O : Orc) (s : Bool) (e : Bool) (d : List (List T)) (s3 : Bool) (eq3 : Bool) (d3 : List (List T)) : stepO PROG ann O (Key.call 120) [AV.ref (Id.c 0) 0, AV.ref (Id.c 0) 0, AV.t (T.ptr [T.bool s3, T.lst 1 eq3 d3])] [Blk.box [B s, AV.t (T.lst 1 e d)]] =
  (gdK none (O (Key.call 103) [AV.ref (Id.c 0) 0, AV.t (T.ptr [T.bool s3, T.lst 1 eq3 d3])] [Blk.box [B false, AV.t (T.emp true)]]) fun l => gdK none l.head? fun x => gdK none (List.drop 1 l).head? fun x => gdK none x.bool?
 fun b => gdK none (List.drop 1 l).tail.head? fun x => gdK none (T.lst? 1 x) fun p => gdK none (O (Key.call 75) [AV.ref (Id.c 0) 0, AV.ref (Id.c 0) 0, AV.t (T.ptr [T.bool b, T.lst 1 p.fst p.snd])] [Blk.box [B s, AV.t
 (T.lst 1 e d)]]) fun l => gdK none l.head? fun x => gdK none (List.drop 1 l).head? fun x => gdK none x.bool? fun b => gdK none (List.drop 1 l).tail.head? fun x => gdK none (T.lst? 1 x) fun p => some [T.nilp, T.bool b,
 T.lst 1 p.fst p.snd]) := by kernel_rfl
theorem e37 (O : Orc) (s : Bool) (y : T) (s2 : Bool) (eq2 : Bool) (d2 : List (List T)) (s3 : Bool) (eq3 : Bool) (d3 : List (List T)) : stepO PROG ann O (Key.call 72) [AV.ref (Id.c 0) 0, AV.t (T.ptr [T.bool s2, T.lst 1 eq2 d2]), AV.t (T.ptr [T.bool s3, T.lst 1 eq3 d3])] [Blk.box [B s, AV.t y]] =
  (gdK none (mkOk (IntKind.i64.wrap ((↑d2.length : Int) + (↑d3.length : Int))) (IntKind.i64.wrap ((↑d2.length : Int) + (↑d3.length : Int)))) fun x => O K37n3m1 [AV.ref (Id.c 0) 0, AV.t (T.ptr [T.bool s2, T.lst 1 eq2 d2]),
 AV.t (T.ptr [T.bool s3, T.lst 1 eq3 d3]), AV.own (Id.c 1), AV.t (T.lst 1 eq2 d2), I (↑d2.length : Int), I (0 : Int)] [Blk.box [B s, AV.t y], Blk.sl false 1 false (List.replicate (IntKind.i64.wrap ((↑d2.length : Int) +
 (↑d3.length : Int))).toNat [T.int IntKind.u32 (0 : Int)])]) := by kernel_rfl
theorem e37n3 (O : Orc) (v1_0 : Bool) (ev1_1 : Bool) (v1_1 : List (List T)) (v2_0 : Bool) (ev2_1 : Bool) (v2_1 : List (List T)) (ev28 : Bool) (v28 : List (List T)) (v29 : Int) (v30 : Int) (c0_0 : Bool) (c0_1 : T) (ec1 : Bool) (c1 : List (List T)) : stepO PROG ann O K37n3m1 [(AV.ref (Id.c 0) 0), (AV.t (T.ptr [(T.bool v1_0), (T.lst 1 ev1_1 v1_1)])), (AV.t (T.ptr [(T.bool v2_0), (T.lst 1 ev2_1 v2_1)])), (AV.own (Id.c 1)), (AV.t (T.lst 1 ev28 v28)), (I v29), (I v30)] [(Blk.box [(B c0_0), (AV.t c0_1)]), (Blk.sl false 1 ec1 c1)] =
  (bif decide (v30 < v29) then gdK none (if (0 : Int) ≤ v30 ∧ v30 < (↑v28.length : Int) then some () else none) fun x => gdK none v28[v30.toNat]? fun l => gdK none l.head? fun x => gdK none (T.int? IntKind.u32 x) fun n => O
 K37n7m1 [AV.ref (Id.c 0) 0, AV.t (T.ptr [T.bool v1_0, T.lst 1 ev1_1 v1_1]), AV.t (T.ptr [T.bool v2_0, T.lst 1 ev2_1 v2_1]), AV.own (Id.c 1), I v30, AV.t (T.int IntKind.u32 n), AV.t (T.int IntKind.u64 (0 : Int)), AV.t
 (T.lst 1 ev28 v28), I v29, I v30, AV.t (T.lst 1 ev2_1 v2_1), I (↑v2_1.length : Int), I (0 : Int)] [Blk.box [B c0_0, AV.t c0_1], Blk.sl false 1 ec1 c1] else gdK none (O (Key.call 98) [AV.ref (Id.c 0) 0] [Blk.box [B !v1_0
 == v2_0, AV.own (Id.c 1)], Blk.sl false 1 ec1 c1]) fun l => gdK none l.head? fun x => gdK none (List.drop 1 l).head? fun x => gdK none x.bool? fun b => gdK none (List.drop 1 l).tail.head? fun x => gdK none (T.lst? 1 x)
 fun p => some [T.nilp, T.bool b, T.lst 1 p.fst p.snd]) := by kernel_rfl
theorem e37n7 (O : Orc) (v1_0 : Bool) (ev1_1 : Bool) (v1_1 : List (List T)) (v2_0 : Bool) (ev2_1 : Bool) (v2_1 : List (List T)) (v8 : Int) (v9 : Int) (v10 : Int) (ev28 : Bool) (v28 : List (List T)) (v29 : Int) (v30 : Int) (ev38 : Bool) (v38 : List (List T)) (v39 : Int) (v40 : Int) (c0_0 : Bool) (c0_1 : T) (ec1 : Bool) (c1 : List (List T)) : stepO PROG ann O K37n7m1 [(AV.ref (Id.c 0) 0), (AV.t (T.ptr [(T.bool v1_0), (T.lst 1 ev1_1 v1_1)])), (AV.t (T.ptr [(T.bool v2_0), (T.lst 1 ev2_1 v2_1)])), (AV.own (Id.c 1)), (I v8), (AV.t (T.int IntKind.u32 v9)), (AV.t (T.int IntKind.u64 v10)), (AV.t (T.lst 1 ev28 v28)), (I v29), (I v30), (AV.t (T.lst 1 ev38 v38)), (I v39), (I v40)] [(Blk.box [(B c0_0), (AV.t c0_1)]), (Blk.sl false 1 ec1 c1)] =
  (bif decide (v40 < v39) then gdK none (if (0 : Int) ≤ v40 ∧ v40 < (↑v38.length : Int) then some () else none) fun x => gdK none v38[v40.toNat]? fun l => gdK none l.head? fun x => gdK none (T.int? IntKind.u32 x) fun n =>
 gdK none (if (0 : Int) ≤ IntKind.i64.wrap (v8 + v40) ∧ IntKind.i64.wrap (v8 + v40) < (↑c1.length : Int) then some () else none) fun x => gdK none c1[(IntKind.i64.wrap (v8 + v40)).toNat]? fun l => gdK none l.head? fun x =>
 gdK none (T.int? IntKind.u32 x) fun n_1 => gdK none (if (0 : Int) ≤ IntKind.i64.wrap (v8 + v40) ∧ IntKind.i64.wrap (v8 + v40) < (↑c1.length : Int) then some () else none) fun x => gdK none (storeIn (IntKind.i64.wrap (v8 +
 v40)).toNat 0 [T.int IntKind.u32 (IntKind.u32.wrap (IntKind.u64.wrap (v10 + IntKind.u64.wrap (IntKind.u64.wrap (IntKind.u64.wrap v9 * IntKind.u64.wrap n) + IntKind.u64.wrap n_1))))] c1) fun l => O K37n7m1 [AV.ref (Id.c 0)
 0, AV.t (T.ptr [T.bool v1_0, T.lst 1 ev1_1 v1_1]), AV.t (T.ptr [T.bool v2_0, T.lst 1 ev2_1 v2_1]), AV.own (Id.c 1), I v8, AV.t (T.int IntKind.u32 v9), AV.t (T.int IntKind.u64 ((IntKind.u64.wrap (v10 + IntKind.u64.wrap
 (IntKind.u64.wrap (IntKind.u64.wrap v9 * IntKind.u64.wrap n) + IntKind.u64.wrap n_1))).fdiv ((2 : Int) ^ 32))), AV.t (T.lst 1 ev28 v28), I v29, I v30, AV.t (T.lst 1 ev38 v38), I v39, I (IntKind.i64.wrap (v40 + (1 :
 Int)))] [Blk.box [B c0_0, AV.t c0_1], Blk.sl false 1 ec1 l] else gdK none (if (0 : Int) ≤ IntKind.i64.wrap (v8 + (↑v2_1.length : Int)) ∧ IntKind.i64.wrap (v8 + (↑v2_1.length : Int)) < (↑c1.length : Int) then some () else
 none) fun x => gdK none (storeIn (IntKind.i64.wrap (v8 + (↑v2_1.length : Int))).toNat 0 [T.int IntKind.u32 (IntKind.u32.wrap v10)] c1) fun l => O K37n3m1 [AV.ref (Id.c 0) 0, AV.t (T.ptr [T.bool v1_0, T.lst 1 ev1_1 v1_1]),
 AV.t (T.ptr [T.bool v2_0, T.lst 1 ev2_1 v2_1]), AV.own (Id.c 1), AV.t (T.lst 1 ev28 v28), I v29, I (IntKind.i64.wrap (v30 + (1 : Int)))] [Blk.box [B c0_0, AV.t c0_1], Blk.sl false 1 ec1 l]) := by kernel_rfl
theorem e52 (O : Orc) (s : Bool) (y : T) (s2 : Bool) (eq2 : Bool) (d2 : List (List T)) (s3 : Bool) (eq3 : Bool) (d3 : List (List T)) (s4 : Bool) (y4 : T) : stepO PROG ann O (Key.call 99) [AV.ref (Id.c 0) 0, AV.t (T.ptr [T.bool s2, T.lst 1 eq2 d2]), AV.t (T.ptr [T.bool s3, T.lst 1 eq3 d3]), AV.ref (Id.c 1) 0] [Blk.box [B s, AV.t y], Blk.box [B s4, AV.t y4]] =
  (gdK none (O (Key.call 63) [AV.ref (Id.c 0) 0, AV.t (T.ptr [T.bool s3, T.lst 1 eq3 d3])] [Blk.box [B false, AV.t (T.emp true)]]) fun l => gdK none l.head? fun x => gdK none (List.drop 1 l).head? fun x => gdK none x.bool?
 fun b => gdK none (List.drop 1 l).tail.head? fun x => gdK none (T.lst? 1 x) fun p => gdK none (O (Key.call 119) [AV.ref (Id.c 0) 0, AV.t (T.ptr [T.bool s2, T.lst 1 eq2 d2]), AV.t (T.ptr [T.bool s3, T.lst 1 eq3 d3]), AV.ref
 (Id.c 1) 0] [Blk.box [B s, AV.t y], Blk.box [B s4, AV.t y4]]) fun l => gdK none l.head? fun x => gdK none l.tail.head? fun x => gdK none (List.drop 2 l).head? fun x => gdK none x.bool? fun b_1 => gdK none (List.drop 2
 l).tail.head? fun x => gdK none (T.lst? 1 x) fun p_1 => gdK none (List.drop 2 (List.drop 2 l)).head? fun x => gdK none x.bool? fun b_2 => gdK none (List.drop 2 (List.drop 2 l)).tail.head? fun x => gdK none (T.lst? 1 x)
 fun p_2 => bif b_2 then bif b then gdK none (O (Key.call 27) [I (1 : Int)] []) fun l => gdK none l.head? fun x => gdK none (O (Key.call 75) [AV.ref (Id.c 0) 0, AV.ref (Id.c 0) 0, AV.t x] [Blk.box [B b_1, AV.t (T.lst 1
 p_1.fst p_1.snd)]]) fun l => gdK none l.head? fun x => gdK none (List.drop 1 l).head? fun x => gdK none x.bool? fun b_3 => gdK none (List.drop 1 l).tail.head? fun x => gdK none (T.lst? 1 x) fun p_3 => gdK none (O
 (Key.call 120) [AV.ref (Id.c 0) 0, AV.ref (Id.c 0) 0, AV.t (T.ptr [T.bool b, T.lst 1 p.fst p.snd])] [Blk.box [B b_2, AV.t (T.lst 1 p_2.fst p_2.snd)]]) fun l => gdK none l.head? fun x => gdK none (List.drop 1 l).head? fun
 x => gdK none x.bool? fun b => gdK none (List.drop 1 l).tail.head? fun x => gdK none (T.lst? 1 x) fun p => some [T.nilp, T.nilp, T.bool b_3, T.lst 1 p_3.fst p_3.snd, T.bool b, T.lst 1 p.fst p.snd] else gdK none (O
 (Key.call 27) [I (1 : Int)] []) fun l => gdK none l.head? fun x => gdK none (O (Key.call 120) [AV.ref (Id.c 0) 0, AV.ref (Id.c 0) 0, AV.t x] [Blk.box [B b_1, AV.t (T.lst 1 p_1.fst p_1.snd)]]) fun l => gdK none l.head? fun
 x => gdK none (List.drop 1 l).head? fun x => gdK none x.bool? fun b_3 => gdK none (List.drop 1 l).tail.head? fun x => gdK none (T.lst? 1 x) fun p_3 => gdK none (O (Key.call 75) [AV.ref (Id.c 0) 0, AV.ref (Id.c 0) 0, AV.t
 (T.ptr [T.bool b, T.lst 1 p.fst p.snd])] [Blk.box [B b_2, AV.t (T.lst 1 p_2.fst p_2.snd)]]) fun l => gdK none l.head? fun x => gdK none (List.drop 1 l).head? fun x => gdK none x.bool? fun b => gdK none (List.drop 1
 l).tail.head? fun x => gdK none (T.lst? 1 x) fun p => some [T.nilp, T.nilp, T.bool b_3, T.lst 1 p_3.fst p_3.snd, T.bool b, T.lst 1 p.fst p.snd] else some [T.nilp, T.nilp, T.bool b_1, T.lst 1 p_1.fst p_1.snd, T.bool b_2,
 T.lst 1 p_2.fst p_2.snd]) := by kernel_rfl
theorem e70 (O : Orc) (s : Bool) (y : T) (s2 : Bool) (eq2 : Bool) (d2 : List (List T)) (s3 : Bool) (eq3 : Bool) (d3 : List (List T)) (s4 : Bool) (y4 : T) : stepO PROG ann O (Key.call 119) [AV.ref (Id.c 0) 0, AV.t (T.ptr [T.bool s2, T.lst 1 eq2 d2]), AV.t (T.ptr [T.bool s3, T.lst 1 eq3 d3]), AV.ref (Id.c 1) 0] [Blk.box [B s, AV.t y], Blk.box [B s4, AV.t y4]] =
  (gdK none (O (Key.call 65) [AV.t (T.ptr [T.bool s2, T.lst 1 eq2 d2]), AV.t (T.ptr [T.bool s3, T.lst 1 eq3 d3])] []) fun l => gdK none l.head? fun x => gdK none (T.int? IntKind.i64 x) fun n => bif decide (n < (0 : Int)) then
 gdK none (O (Key.call 63) [AV.ref (Id.c 0) 0, AV.t (T.ptr [T.bool s2, T.lst 1 eq2 d2])] [Blk.box [B s4, AV.t y4]]) fun l => gdK none l.head? fun x => gdK none (List.drop 1 l).head? fun x => gdK none x.bool? fun b => gdK
 none (List.drop 1 l).tail.head? fun x => gdK none (T.lst? 1 x) fun p => gdK none (O (Key.call 64) [AV.ref (Id.c 0) 0, I (0 : Int)] [Blk.box [B s, AV.t y]]) fun l => gdK none l.head? fun x => gdK none (List.drop 1 l).head?
 fun x => gdK none x.bool? fun b_1 => gdK none (List.drop 1 l).tail.head? fun x => gdK none (T.lst? 1 x) fun p_1 => some [T.nilp, T.nilp, T.bool b_1, T.lst 1 p_1.fst p_1.snd, T.bool b, T.lst 1 p.fst p.snd] else bif decide
 ((↑d2.length : Int) < (3 : Int)) then gdK none (O (Key.call 60) [AV.t (T.ptr [T.bool s2, T.lst 1 eq2 d2])] []) fun l => gdK none l.head? fun x => gdK none (T.int? IntKind.u64 x) fun n => gdK none (O (Key.call 60) [AV.t
 (T.ptr [T.bool s3, T.lst 1 eq3 d3])] []) fun l => gdK none l.head? fun x => gdK none (T.int? IntKind.u64 x) fun n_1 => gdK none (if n_1 = (0 : Int) then none else some ()) fun x => gdK none (O (Key.call 61) [AV.ref (Id.c
 0) 0, AV.t (T.int IntKind.u64 (IntKind.u64.wrap (n.tdiv n_1)))] [Blk.box [B s, AV.t y]]) fun l => gdK none l.head? fun x => gdK none (List.drop 1 l).head? fun x => gdK none x.bool? fun b => gdK none (List.drop 1
 l).tail.head? fun x => gdK none (T.lst? 1 x) fun p => gdK none (if n_1 = (0 : Int) then none else some ()) fun x => gdK none (O (Key.call 61) [AV.ref (Id.c 0) 0, AV.t (T.int IntKind.u64 (n.tmod n_1))] [Blk.box [B s4, AV.t
 y4]]) fun l => gdK none l.head? fun x => gdK none (List.drop 1 l).head? fun x => gdK none x.bool? fun b => gdK none (List.drop 1 l).tail.head? fun x => gdK none (T.lst? 1 x) fun p_1 => gdK none (O (Key.call 98) [AV.ref
 (Id.c 0) 0] [Blk.box [B !s2 == s3, AV.t (T.lst 1 p.fst p.snd)]]) fun l => gdK none l.head? fun x => gdK none (List.drop 1 l).head? fun x => gdK none x.bool? fun b => gdK none (List.drop 1 l).tail.head? fun x => gdK none
 (T.lst? 1 x) fun p => gdK none (O (Key.call 98) [AV.ref (Id.c 0) 0] [Blk.box [B s2, AV.t (T.lst 1 p_1.fst p_1.snd)]]) fun l => gdK none l.head? fun x => gdK none (List.drop 1 l).head? fun x => gdK none x.bool? fun b_1 =>
 gdK none (List.drop 1 l).tail.head? fun x => gdK none (T.lst? 1 x) fun p_2 => some [T.nilp, T.nilp, T.bool b, T.lst 1 p.fst p.snd, T.bool b_1, T.lst 1 p_2.fst p_2.snd] else gdK none (O (Key.call 130) [AV.t (T.lst 1 eq2
 d2), AV.t (T.lst 1 eq3 d3)] []) fun l => gdK none l.head? fun x => gdK none (T.lst? 1 x) fun p => gdK none l.tail.head? fun x => gdK none (T.lst? 1 x) fun p_1 => gdK none (O (Key.call 98) [AV.ref (Id.c 0) 0] [Blk.box [B
 !s2 == s3, AV.own (Id.c 1)], Blk.sl false 1 p.fst p.snd]) fun l => gdK none l.head? fun x => gdK none (List.drop 1 l).head? fun x => gdK none x.bool? fun b => gdK none (List.drop 1 l).tail.head? fun x => gdK none (T.lst?
 1 x) fun p => gdK none (O (Key.call 98) [AV.ref (Id.c 0) 0] [Blk.box [B s2, AV.own (Id.c 1)], Blk.sl false 1 p_1.fst p_1.snd]) fun l => gdK none l.head? fun x => gdK none (List.drop 1 l).head? fun x => gdK none x.bool?
 fun b_1 => gdK none (List.drop 1 l).tail.head? fun x => gdK none (T.lst? 1 x) fun p_2 => some [T.nilp, T.nilp, T.bool b, T.lst 1 p.fst p.snd, T.bool b_1, T.lst 1 p_2.fst p_2.snd]) := by kernel_rfl
theorem e66 (O : Orc) (ex : Bool) (x : List (List T)) (ey : Bool) (y : List (List T)) : stepO PROG ann O (Key.call 105) [AV.t (T.lst 1 ex x), AV.t (T.lst 1 ey y)] [] =
  (bif decide ((↑x.length : Int) < (↑y.length : Int)) then gdK none (mkOk (IntKind.i64.wrap ((↑y.length : Int) + (1 : Int))) (IntKind.i64.wrap ((↑y.length : Int) + (1 : Int)))) fun x_1 => O K66n6 [AV.t (T.lst 1 ey y), AV.t
 (T.lst 1 ex x), AV.own (Id.c 0), AV.t (T.int IntKind.u64 (0 : Int)), AV.t (T.lst 1 ey y), I (↑y.length : Int), I (0 : Int)] [Blk.sl false 1 false (List.replicate (IntKind.i64.wrap ((↑y.length : Int) + (1 : Int))).toNat
 [T.int IntKind.u32 (0 : Int)])] else gdK none (mkOk (IntKind.i64.wrap ((↑x.length : Int) + (1 : Int))) (IntKind.i64.wrap ((↑x.length : Int) + (1 : Int)))) fun x_1 => O K66n6 [AV.t (T.lst 1 ex x), AV.t (T.lst 1 ey y),
 AV.own (Id.c 0), AV.t (T.int IntKind.u64 (0 : Int)), AV.t (T.lst 1 ex x), I (↑x.length : Int), I (0 : Int)] [Blk.sl false 1 false (List.replicate (IntKind.i64.wrap ((↑x.length : Int) + (1 : Int))).toNat [T.int IntKind.u32
 (0 : Int)])]) := by kernel_rfl
theorem e66n6 (O : Orc) (ev0 : Bool) (v0 : List (List T)) (ev1 : Bool) (v1 : List (List T)) (v6 : Int) (ev20 : Bool) (v20 : List (List T)) (v21 : Int) (v22 : Int) (ec0 : Bool) (c0 : List (List T)) : stepO PROG ann O K66n6 [(AV.t (T.lst 1 ev0 v0)), (AV.t (T.lst 1 ev1 v1)), (AV.own (Id.c 0)), (AV.t (T.int IntKind.u64 v6)), (AV.t (T.lst 1 ev20 v20)), (I v21), (I v22)] [(Blk.sl false 1 ec0 c0)] =
  (bif decide (v22 < v21) then gdK none (if (0 : Int) ≤ v22 ∧ v22 < (↑v20.length : Int) then some () else none) fun x => gdK none v20[v22.toNat]? fun l => gdK none l.head? fun x => gdK none (T.int? IntKind.u32 x) fun n =>
 bif decide (v22 < (↑v1.length : Int)) then gdK none (if (0 : Int) ≤ v22 ∧ v22 < (↑v1.length : Int) then some () else none) fun x => gdK none v1[v22.toNat]? fun l => gdK none l.head? fun x => gdK none (T.int? IntKind.u32
 x) fun n_1 => gdK none (if (0 : Int) ≤ v22 ∧ v22 < (↑c0.length : Int) then some () else none) fun x => gdK none (storeIn v22.toNat 0 [T.int IntKind.u32 (IntKind.u32.wrap (IntKind.u64.wrap (IntKind.u64.wrap (v6 +
 IntKind.u64.wrap n) + IntKind.u64.wrap n_1)))] c0) fun l => O K66n6 [AV.t (T.lst 1 ev0 v0), AV.t (T.lst 1 ev1 v1), AV.own (Id.c 0), AV.t (T.int IntKind.u64 ((IntKind.u64.wrap (IntKind.u64.wrap (v6 + IntKind.u64.wrap n) +
 IntKind.u64.wrap n_1)).fdiv ((2 : Int) ^ 32))), AV.t (T.lst 1 ev20 v20), I v21, I (IntKind.i64.wrap (v22 + (1 : Int)))] [Blk.sl false 1 ec0 l] else gdK none (if (0 : Int) ≤ v22 ∧ v22 < (↑c0.length : Int) then some () else
 none) fun x => gdK none (storeIn v22.toNat 0 [T.int IntKind.u32 (IntKind.u32.wrap (IntKind.u64.wrap (v6 + IntKind.u64.wrap n)))] c0) fun l => O K66n6 [AV.t (T.lst 1 ev0 v0), AV.t (T.lst 1 ev1 v1), AV.own (Id.c 0), AV.t
 (T.int IntKind.u64 ((IntKind.u64.wrap (v6 + IntKind.u64.wrap n)).fdiv ((2 : Int) ^ 32))), AV.t (T.lst 1 ev20 v20), I v21, I (IntKind.i64.wrap (v22 + (1 : Int)))] [Blk.sl false 1 ec0 l] else gdK none (if (0 : Int) ≤
 (↑v0.length : Int) ∧ (↑v0.length : Int) < (↑c0.length : Int) then some () else none) fun x => gdK none (storeIn (↑v0.length : Int).toNat 0 [T.int IntKind.u32 (IntKind.u32.wrap v6)] c0) fun l => some [T.lst 1 ec0 l]) := by kernel_rfl
theorem e68 (O : Orc) (ex : Bool) (x : List (List T)) (ey : Bool) (y : List (List T)) : stepO PROG ann O (Key.call 106) [AV.t (T.lst 1 ex x), AV.t (T.lst 1 ey y)] [] =
  (gdK none (mkOk (↑x.length : Int) (↑x.length : Int)) fun x_1 => O K68n4 [AV.t (T.lst 1 ey y), AV.own (Id.c 0), AV.t (T.int IntKind.u64 (0 : Int)), AV.t (T.lst 1 ex x), I (↑x.length : Int), I (0 : Int)] [Blk.sl false 1
 false (List.replicate (↑x.length : Int).toNat [T.int IntKind.u32 (0 : Int)])]) := by kernel_rfl
theorem e68n4 (O : Orc) (ev1 : Bool) (v1 : List (List T)) (v6 : Int) (ev13 : Bool) (v13 : List (List T)) (v14 : Int) (v15 : Int) (ec0 : Bool) (c0 : List (List T)) : stepO PROG ann O K68n4 [(AV.t (T.lst 1 ev1 v1)), (AV.own (Id.c 0)), (AV.t (T.int IntKind.u64 v6)), (AV.t (T.lst 1 ev13 v13)), (I v14), (I v15)] [(Blk.sl false 1 ec0 c0)] =
  (bif decide (v15 < v14) then gdK none (if (0 : Int) ≤ v15 ∧ v15 < (↑v13.length : Int) then some () else none) fun x => gdK none v13[v15.toNat]? fun l => gdK none l.head? fun x => gdK none (T.int? IntKind.u32 x) fun n =>
 bif decide (v15 < (↑v1.length : Int)) then gdK none (if (0 : Int) ≤ v15 ∧ v15 < (↑v1.length : Int) then some () else none) fun x => gdK none v1[v15.toNat]? fun l => gdK none l.head? fun x => gdK none (T.int? IntKind.u32
 x) fun n_1 => gdK none (if (0 : Int) ≤ v15 ∧ v15 < (↑c0.length : Int) then some () else none) fun x => gdK none (storeIn v15.toNat 0 [T.int IntKind.u32 (IntKind.u32.wrap (IntKind.u64.wrap (IntKind.u64.wrap
 (IntKind.u64.wrap n - v6) - IntKind.u64.wrap n_1)))] c0) fun l => O K68n4 [AV.t (T.lst 1 ev1 v1), AV.own (Id.c 0), AV.t (T.int IntKind.u64 ((IntKind.u64.wrap (IntKind.u64.wrap (IntKind.u64.wrap n - v6) - IntKind.u64.wrap
 n_1)).fdiv ((2 : Int) ^ 63))), AV.t (T.lst 1 ev13 v13), I v14, I (IntKind.i64.wrap (v15 + (1 : Int)))] [Blk.sl false 1 ec0 l] else gdK none (if (0 : Int) ≤ v15 ∧ v15 < (↑c0.length : Int) then some () else none) fun x =>
 gdK none (storeIn v15.toNat 0 [T.int IntKind.u32 (IntKind.u32.wrap (IntKind.u64.wrap (IntKind.u64.wrap n - v6)))] c0) fun l => O K68n4 [AV.t (T.lst 1 ev1 v1), AV.own (Id.c 0), AV.t (T.int IntKind.u64 ((IntKind.u64.wrap
 (IntKind.u64.wrap n - v6)).fdiv ((2 : Int) ^ 63))), AV.t (T.lst 1 ev13 v13), I v14, I (IntKind.i64.wrap (v15 + (1 : Int)))] [Blk.sl false 1 ec0 l] else some [T.lst 1 ec0 c0]) := by kernel_rfl
theorem e67 (O : Orc) (s2 : Bool) (eq2 : Bool) (d2 : List (List T)) (s3 : Bool) (eq3 : Bool) (d3 : List (List T)) : stepO PROG ann O (Key.call 65) [AV.t (T.ptr [T.bool s2, T.lst 1 eq2 d2]), AV.t (T.ptr [T.bool s3, T.lst 1 eq3 d3])] [] =
  (bif !(↑d2.length : Int) == (↑d3.length : Int) then bif decide ((↑d2.length : Int) < (↑d3.length : Int)) then some [T.int IntKind.i64 (-1 : Int)] else some [T.int IntKind.i64 (1 : Int)] else O K67n6 [AV.t (T.ptr [T.bool
 s2, T.lst 1 eq2 d2]), AV.t (T.ptr [T.bool s3, T.lst 1 eq3 d3]), I (IntKind.i64.wrap ((↑d2.length : Int) - (1 : Int)))] []) := by kernel_rfl
theorem e67n6 (O : Orc) (v0_0 : Bool) (ev0_1 : Bool) (v0_1 : List (List T)) (v1_0 : Bool) (ev1_1 : Bool) (v1_1 : List (List T)) (v5 : Int) : stepO PROG ann O K67n6 [(AV.t (T.ptr [(T.bool v0_0), (T.lst 1 ev0_1 v0_1)])), (AV.t (T.ptr [(T.bool v1_0), (T.lst 1 ev1_1 v1_1)])), (I v5)] [] =
  (bif decide (v5 ≥ (0 : Int)) then gdK none (if (0 : Int) ≤ v5 ∧ v5 < (↑v0_1.length : Int) then some () else none) fun x => gdK none v0_1[v5.toNat]? fun l => gdK none l.head? fun x => gdK none (T.int? IntKind.u32 x) fun n
 => gdK none (if (0 : Int) ≤ v5 ∧ v5 < (↑v1_1.length : Int) then some () else none) fun x => gdK none v1_1[v5.toNat]? fun l => gdK none l.head? fun x => gdK none (T.int? IntKind.u32 x) fun n_1 => bif !n == n_1 then gdK
 none (if (0 : Int) ≤ v5 ∧ v5 < (↑v0_1.length : Int) then some () else none) fun x => gdK none v0_1[v5.toNat]? fun l => gdK none l.head? fun x => gdK none (T.int? IntKind.u32 x) fun n => gdK none (if (0 : Int) ≤ v5 ∧ v5 <
 (↑v1_1.length : Int) then some () else none) fun x => gdK none v1_1[v5.toNat]? fun l => gdK none l.head? fun x => gdK none (T.int? IntKind.u32 x) fun n_2 => bif decide (n < n_2) then some [T.int IntKind.i64 (-1 : Int)]
 else some [T.int IntKind.i64 (1 : Int)] else O K67n6 [AV.t (T.ptr [T.bool v0_0, T.lst 1 ev0_1 v0_1]), AV.t (T.ptr [T.bool v1_0, T.lst 1 ev1_1 v1_1]), I (IntKind.i64.wrap (v5 - (1 : Int)))] [] else some [T.int IntKind.i64
 (0 : Int)]) := by kernel_rfl
theorem e39 (O : Orc) (s2 : Bool) (eq2 : Bool) (d2 : List (List T)) : stepO PROG ann O (Key.call 104) [AV.t (T.ptr [T.bool s2, T.lst 1 eq2 d2])] [] =
  (bif s2 then gdK none (O (Key.call 60) [AV.t (T.ptr [T.bool s2, T.lst 1 eq2 d2])] []) fun l => gdK none l.head? fun x => gdK none (T.int? IntKind.u64 x) fun n => some [T.int IntKind.i64 (IntKind.i64.wrap ((0 : Int) -
 IntKind.i64.wrap n))] else gdK none (O (Key.call 60) [AV.t (T.ptr [T.bool s2, T.lst 1 eq2 d2])] []) fun l => gdK none l.head? fun x => gdK none (T.int? IntKind.u64 x) fun n => some [T.int IntKind.i64 (IntKind.i64.wrap n)]) := by kernel_rfl
theorem e53 (O : Orc) (a0_0 : Bool) (ea0_1 : Bool) (a0_1 : List (List T)) : stepO PROG ann O (Key.call 60) [(AV.t (T.ptr [(T.bool a0_0), (T.lst 1 ea0_1 a0_1)]))] [] =
  (O K53n3 [AV.t (T.ptr [T.bool a0_0, T.lst 1 ea0_1 a0_1]), AV.t (T.int IntKind.u64 (0 : Int)), I (IntKind.i64.wrap (mm false (↑a0_1.length : Int) (2 : Int) - (1 : Int)))] []) := by kernel_rfl
theorem e53n3 (O : Orc) (v0_0 : Bool) (ev0_1 : Bool) (v0_1 : List (List T)) (v3 : Int) (v4 : Int) : stepO PROG ann O K53n3 [(AV.t (T.ptr [(T.bool v0_0), (T.lst 1 ev0_1 v0_1)])), (AV.t (T.int IntKind.u64 v3)), (I v4)] [] =
  (bif decide (v4 ≥ (0 : Int)) then gdK none (if (0 : Int) ≤ v4 ∧ v4 < (↑v0_1.length : Int) then some () else none) fun x => gdK none v0_1[v4.toNat]? fun l => gdK none l.head? fun x => gdK none (T.int? IntKind.u32 x) fun n
 => O K53n3 [AV.t (T.ptr [T.bool v0_0, T.lst 1 ev0_1 v0_1]), AV.t (T.int IntKind.u64 (IntKind.u64.wrap (↑(BitVec.ofInt 64 (IntKind.u64.wrap (v3 * (2 : Int) ^ 32)) ||| BitVec.ofInt 64 (IntKind.u64.wrap n)).toNat : Int))), I
 (IntKind.i64.wrap (v4 - (1 : Int)))] [] else some [T.int IntKind.u64 v3]) := by kernel_rfl
theorem e69p (O : Orc) (s : Bool) (y : T) (s2 : Bool) (eq2 : Bool) (d2 : List (List T)) (r2 : List T) : stepO PROG ann O (Key.call 63) [AV.ref (Id.c 0) 0, AV.t (T.ptr (T.bool s2 :: T.lst 1 eq2 d2 :: r2))] [Blk.box [B s, AV.t y]] =
  (gdK none (small 4 d2.length) fun x => some [T.nilp, T.bool s2, T.lst 1 false d2]) := by kernel_rfl
theorem e69a (O : Orc) (s : Bool) (y : T) (t : Bool) (u : T) (s2 : Bool) (eq2 : Bool) (d2 : List (List T)) : stepO PROG ann O (Key.call 63) [AV.ref (Id.c 0) 0, AV.t (T.ptr [T.bool s2, T.lst 1 eq2 d2])] [Blk.box [B s, AV.t y, B t, AV.t u]] =
  (gdK none (small 4 d2.length) fun x => some [T.nilp, T.bool s2, T.lst 1 false d2, T.bool t, u]) := by kernel_rfl
theorem e69b (O : Orc) (s : Bool) (y : T) (t : Bool) (u : T) (s2 : Bool) (eq2 : Bool) (d2 : List (List T)) : stepO PROG ann O (Key.call 63) [AV.ref (Id.c 0) 2, AV.t (T.ptr [T.bool s2, T.lst 1 eq2 d2])] [Blk.box [B s, AV.t y, B t, AV.t u]] =
  (gdK none (small 4 d2.length) fun x => some [T.nilp, T.bool s, y, T.bool s2, T.lst 1 false d2]) := by kernel_rfl
theorem e69z (O : Orc) (s : Bool) (e : Bool) (d : List (List T)) : stepO PROG ann O (Key.call 63) [AV.ref (Id.c 0) 0, AV.ref (Id.c 0) 0] [Blk.box [B s, AV.t (T.lst 1 e d)]] =
  (gdK none (small 4 d.length) fun x => some [T.nilp, T.bool s, T.lst 1 false d]) := by kernel_rfl
theorem e50p (O : Orc) (s : Bool) (y : T) (s2 : Bool) (eq2 : Bool) (d2 : List (List T)) (r2 : List T) : stepO PROG ann O (Key.call 103) [AV.ref (Id.c 0) 0, AV.t (T.ptr (T.bool s2 :: T.lst 1 eq2 d2 :: r2))] [Blk.box [B s, AV.t y]] =
  (gdK none (O (Key.call 63) [AV.ref (Id.c 0) 0, AV.t (T.ptr (T.bool s2 :: T.lst 1 eq2 d2 :: r2))] [Blk.box [B s, AV.t y]]) fun l => gdK none l.head? fun x => gdK none (List.drop 1 l).head? fun x => gdK none x.bool? fun b =>
 gdK none (List.drop 1 l).tail.head? fun x => gdK none (T.lst? 1 x) fun p => some [T.nilp, T.bool (bif !b then decide ((↑p.snd.length : Int) > (0 : Int)) else false), T.lst 1 p.fst p.snd]) := by kernel_rfl
theorem e50z (O : Orc) (s : Bool) (e : Bool) (d : List (List T)) : stepO PROG ann O (Key.call 103) [AV.ref (Id.c 0) 0, AV.ref (Id.c 0) 0] [Blk.box [B s, AV.t (T.lst 1 e d)]] =
  (gdK none (O (Key.call 63) [AV.ref (Id.c 0) 0, AV.ref (Id.c 0) 0] [Blk.box [B s, AV.t (T.lst 1 e d)]]) fun l => gdK none l.head? fun x => gdK none (List.drop 1 l).head? fun x => gdK none x.bool? fun b => gdK none
 (List.drop 1 l).tail.head? fun x => gdK none (T.lst? 1 x) fun p => some [T.nilp, T.bool (bif !b then decide ((↑p.snd.length : Int) > (0 : Int)) else false), T.lst 1 p.fst p.snd]) := by kernel_rfl
theorem e71 (O : Orc) (s : Bool) (y : T) (s2 : Bool) (eq2 : Bool) (d2 : List (List T)) : stepO PROG ann O (Key.call 58) [AV.ref (Id.c 0) 0, AV.t (T.ptr [T.bool s2, T.lst 1 eq2 d2])] [Blk.box [B s, AV.t y]] =
  (gdK none (O (Key.call 63) [AV.ref (Id.c 0) 0, AV.t (T.ptr [T.bool s2, T.lst 1 eq2 d2])] [Blk.box [B s, AV.t y]]) fun l => gdK none l.head? fun x => gdK none (List.drop 1 l).head? fun x => gdK none x.bool? fun b => gdK none
 (List.drop 1 l).tail.head? fun x => gdK none (T.lst? 1 x) fun p => some [T.nilp, T.bool false, T.lst 1 p.fst p.snd]) := by kernel_rfl
theorem e72 (O : Orc) (s2 : Bool) (eq2 : Bool) (d2 : List (List T)) (r2 : List T) : stepO PROG ann O (Key.call 59) [AV.t (T.ptr (T.bool s2 :: T.lst 1 eq2 d2 :: r2))] [] =
  (bif (↑d2.length : Int) == (0 : Int) then some [T.int IntKind.i64 (0 : Int)] else bif s2 then some [T.int IntKind.i64 (-1 : Int)] else some [T.int IntKind.i64 (1 : Int)]) := by kernel_rfl
theorem e73 (O : Orc) (s : Bool) (y : T) (s2 : Bool) (eq2 : Bool) (d2 : List (List T)) (s3 : Bool) (eq3 : Bool) (d3 : List (List T)) : stepO PROG ann O (Key.call 62) [AV.ref (Id.c 0) 0, AV.t (T.ptr [T.bool s2, T.lst 1 eq2 d2]), AV.t (T.ptr [T.bool s3, T.lst 1 eq3 d3])] [Blk.box [B s, AV.t y]] =
  (gdK none (O (Key.call 99) [AV.ref (Id.c 0) 0, AV.t (T.ptr [T.bool s2, T.lst 1 eq2 d2]), AV.t (T.ptr [T.bool s3, T.lst 1 eq3 d3]), AV.ref (Id.c 1) 0] [Blk.box [B false, AV.t (T.emp true)], Blk.box [B s, AV.t y]]) fun l =>
 gdK none l.head? fun x => gdK none l.tail.head? fun x => gdK none (List.drop 2 l).head? fun x => gdK none x.bool? fun b => gdK none (List.drop 2 l).tail.head? fun x => gdK none (T.lst? 1 x) fun p => gdK none (List.drop 2
 (List.drop 2 l)).head? fun x => gdK none x.bool? fun b => gdK none (List.drop 2 (List.drop 2 l)).tail.head? fun x => gdK none (T.lst? 1 x) fun p => some [T.nilp, T.bool b, T.lst 1 p.fst p.snd]) := by kernel_rfl
theorem e77 (O : Orc) (s : Bool) (y : T) (s2 : Bool) (eq2 : Bool) (d2 : List (List T)) (s3 : Bool) (eq3 : Bool) (d3 : List (List T)) : stepO PROG ann O (Key.call 102) [AV.ref (Id.c 0) 0, AV.t (T.ptr [T.bool s2, T.lst 1 eq2 d2]), AV.t (T.ptr [T.bool s3, T.lst 1 eq3 d3])] [Blk.box [B s, AV.t y]] =
  (gdK none (O (Key.call 119) [AV.ref (Id.c 0) 0, AV.t (T.ptr [T.bool s2, T.lst 1 eq2 d2]), AV.t (T.ptr [T.bool s3, T.lst 1 eq3 d3]), AV.ref (Id.c 1) 0] [Blk.box [B s, AV.t y], Blk.box [B false, AV.t (T.emp true)]]) fun l =>
 gdK none l.head? fun x => gdK none l.tail.head? fun x => gdK none (List.drop 2 l).head? fun x => gdK none x.bool? fun b => gdK none (List.drop 2 l).tail.head? fun x => gdK none (T.lst? 1 x) fun p => gdK none (List.drop 2
 (List.drop 2 l)).head? fun x => gdK none x.bool? fun b_1 => gdK none (List.drop 2 (List.drop 2 l)).tail.head? fun x => gdK none (T.lst? 1 x) fun p_1 => some [T.nilp, T.bool b, T.lst 1 p.fst p.snd]) := by kernel_rfl
theorem e55 (O : Orc) (s2 : Bool) (eq2 : Bool) (d2 : List (List T)) (s3 : Bool) (eq3 : Bool) (d3 : List (List T)) : stepO PROG ann O (Key.call 28) [AV.t (T.ptr [T.bool s2, T.lst 1 eq2 d2]), AV.t (T.ptr [T.bool s3, T.lst 1 eq3 d3])] [] =
  (bif !s2 == s3 then bif s2 then some [T.int IntKind.i64 (-1 : Int)] else some [T.int IntKind.i64 (1 : Int)] else bif s2 then gdK none (O (Key.call 65) [AV.t (T.ptr [T.bool s3, T.lst 1 eq3 d3]), AV.t (T.ptr [T.bool s2, T.lst
 1 eq2 d2])] []) fun l => gdK none l.head? fun x => gdK none (T.int? IntKind.i64 x) fun n => some [T.int IntKind.i64 n] else gdK none (O (Key.call 65) [AV.t (T.ptr [T.bool s2, T.lst 1 eq2 d2]), AV.t (T.ptr [T.bool s3, T.lst
 1 eq3 d3])] []) fun l => gdK none l.head? fun x => gdK none (T.int? IntKind.i64 x) fun n => some [T.int IntKind.i64 n]) := by kernel_rfl
theorem e54 (O : Orc) (s : Bool) (y : T) (s2 : Bool) (eq2 : Bool) (d2 : List (List T)) (s3 : Bool) (eq3 : Bool) (d3 : List (List T)) : stepO PROG ann O (Key.call 26) [AV.ref (Id.c 0) 0, AV.t T.nilp, AV.t T.nilp, AV.t (T.ptr [T.bool s2, T.lst 1 eq2 d2]), AV.t (T.ptr [T.bool s3, T.lst 1 eq3 d3])] [Blk.box [B s, AV.t y]] =
  (gdK none (O (Key.call 58) [AV.ref (Id.c 0) 0, AV.t (T.ptr [T.bool s2, T.lst 1 eq2 d2])] [Blk.box [B false, AV.t (T.emp true)]]) fun l => gdK none l.head? fun x => gdK none (List.drop 1 l).head? fun x => gdK none x.bool?
 fun b => gdK none (List.drop 1 l).tail.head? fun x => gdK none (T.lst? 1 x) fun p => gdK none (O (Key.call 58) [AV.ref (Id.c 0) 0, AV.t (T.ptr [T.bool s3, T.lst 1 eq3 d3])] [Blk.box [B false, AV.t (T.emp true)]]) fun l =>
 gdK none l.head? fun x => gdK none (List.drop 1 l).head? fun x => gdK none x.bool? fun b_1 => gdK none (List.drop 1 l).tail.head? fun x => gdK none (T.lst? 1 x) fun p_1 => O K54n2m1 [AV.ref (Id.c 0) 0, AV.t (T.ptr [T.bool
 b, T.lst 1 p.fst p.snd]), AV.t (T.ptr [T.bool b_1, T.lst 1 p_1.fst p_1.snd])] [Blk.box [B s, AV.t y]]) := by kernel_rfl
theorem e54n2 (O : Orc) (v11_0 : Bool) (ev11_1 : Bool) (v11_1 : List (List T)) (v12_0 : Bool) (ev12_1 : Bool) (v12_1 : List (List T)) (c0_0 : Bool) (c0_1 : T) : stepO PROG ann O K54n2m1 [(AV.ref (Id.c 0) 0), (AV.t (T.ptr [(T.bool v11_0), (T.lst 1 ev11_1 v11_1)])), (AV.t (T.ptr [(T.bool v12_0), (T.lst 1 ev12_1 v12_1)]))] [(Blk.box [(B c0_0), (AV.t c0_1)])] =
  (gdK none (O (Key.call 59) [AV.t (T.ptr [T.bool v12_0, T.lst 1 ev12_1 v12_1])] []) fun l => gdK none l.head? fun x => gdK none (T.int? IntKind.i64 x) fun n => bif !n == (0 : Int) then bif bif decide ((↑v11_1.length : Int)
 < (3 : Int)) then decide ((↑v12_1.length : Int) < (3 : Int)) else false then gdK none (O (Key.call 60) [AV.t (T.ptr [T.bool v11_0, T.lst 1 ev11_1 v11_1])] []) fun l => gdK none l.head? fun x => gdK none (T.int?
 IntKind.u64 x) fun n => gdK none (O (Key.call 60) [AV.t (T.ptr [T.bool v12_0, T.lst 1 ev12_1 v12_1])] []) fun l => gdK none l.head? fun x => gdK none (T.int? IntKind.u64 x) fun n_1 => O K54n5m1 [AV.ref (Id.c 0) 0, AV.t
 (T.int IntKind.u64 n), AV.t (T.int IntKind.u64 n_1)] [Blk.box [B c0_0, AV.t c0_1]] else gdK none (O (Key.call 62) [AV.ref (Id.c 0) 0, AV.t (T.ptr [T.bool v11_0, T.lst 1 ev11_1 v11_1]), AV.t (T.ptr [T.bool v12_0, T.lst 1
 ev12_1 v12_1])] [Blk.box [B false, AV.t (T.emp true)]]) fun l => gdK none l.head? fun x => gdK none (List.drop 1 l).head? fun x => gdK none x.bool? fun b => gdK none (List.drop 1 l).tail.head? fun x => gdK none (T.lst? 1
 x) fun p => O K54n2m1 [AV.ref (Id.c 0) 0, AV.t (T.ptr [T.bool v12_0, T.lst 1 ev12_1 v12_1]), AV.t (T.ptr [T.bool b, T.lst 1 p.fst p.snd])] [Blk.box [B c0_0, AV.t c0_1]] else gdK none (O (Key.call 63) [AV.ref (Id.c 0) 0,
 AV.t (T.ptr [T.bool v11_0, T.lst 1 ev11_1 v11_1])] [Blk.box [B c0_0, AV.t c0_1]]) fun l => gdK none l.head? fun x => gdK none (List.drop 1 l).head? fun x => gdK none x.bool? fun b => gdK none (List.drop 1 l).tail.head?
 fun x => gdK none (T.lst? 1 x) fun p => some [T.nilp, T.bool b, T.lst 1 p.fst p.snd]) := by kernel_rfl
theorem e54n5 (O : Orc) (v13 : Int) (v14 : Int) (c0_0 : Bool) (c0_1 : T) : stepO PROG ann O K54n5m1 [(AV.ref (Id.c 0) 0), (AV.t (T.int IntKind.u64 v13)), (AV.t (T.int IntKind.u64 v14))] [(Blk.box [(B c0_0), (AV.t c0_1)])] =
  (bif decide (v14 > (0 : Int)) then gdK none (if v14 = (0 : Int) then none else some ()) fun x => O K54n5m1 [AV.ref (Id.c 0) 0, AV.t (T.int IntKind.u64 v14), AV.t (T.int IntKind.u64 (v13.tmod v14))] [Blk.box [B c0_0, AV.t
 c0_1]] else gdK none (O (Key.call 61) [AV.ref (Id.c 0) 0, AV.t (T.int IntKind.u64 v13)] [Blk.box [B c0_0, AV.t c0_1]]) fun l => gdK none l.head? fun x => gdK none (List.drop 1 l).head? fun x => gdK none x.bool? fun b =>
 gdK none (List.drop 1 l).tail.head? fun x => gdK none (T.lst? 1 x) fun p => some [T.nilp, T.bool b, T.lst 1 p.fst p.snd]) := by kernel_rfl
theorem e61 (O : Orc) (s : Bool) (y : T) (t : Bool) (u : T) (s2 : Bool) (eq2 : Bool) (d2 : List (List T)) (s3 : Bool) (eq3 : Bool) (d3 : List (List T)) : stepO PROG ann O (Key.call 69) [AV.ref (Id.c 0) 0, AV.t (T.ptr [T.bool s2, T.lst 1 eq2 d2]), AV.t (T.ptr [T.bool s3, T.lst 1 eq3 d3])] [Blk.box [B s, AV.t y, B t, AV.t u]] =
  (gdK none (O (Key.call 26) [AV.ref (Id.c 0) 0, AV.t T.nilp, AV.t T.nilp, AV.t (T.ptr [T.bool s2, T.lst 1 eq2 d2]), AV.t (T.ptr [T.bool s3, T.lst 1 eq3 d3])] [Blk.box [B false, AV.t (T.emp true)]]) fun l => gdK none l.head?
 fun x => gdK none (List.drop 1 l).head? fun x => gdK none x.bool? fun b => gdK none (List.drop 1 l).tail.head? fun x => gdK none (T.lst? 1 x) fun p => gdK none (O (Key.call 102) [AV.ref (Id.c 0) 0, AV.t (T.ptr [T.bool s2,
 T.lst 1 eq2 d2]), AV.t (T.ptr [T.bool b, T.lst 1 p.fst p.snd])] [Blk.box [B false, AV.t (T.emp true)]]) fun l => gdK none l.head? fun x => gdK none (List.drop 1 l).head? fun x => gdK none x.bool? fun b_1 => gdK none
 (List.drop 1 l).tail.head? fun x => gdK none (T.lst? 1 x) fun p_1 => gdK none (O (Key.call 102) [AV.ref (Id.c 0) 0, AV.t (T.ptr [T.bool s3, T.lst 1 eq3 d3]), AV.t (T.ptr [T.bool b, T.lst 1 p.fst p.snd])] [Blk.box [B false,
 AV.t (T.emp true)]]) fun l => gdK none l.head? fun x => gdK none (List.drop 1 l).head? fun x => gdK none x.bool? fun b => gdK none (List.drop 1 l).tail.head? fun x => gdK none (T.lst? 1 x) fun p => bif b then gdK none (O
 (Key.call 103) [AV.ref (Id.c 0) 0, AV.ref (Id.c 0) 0] [Blk.box [B b_1, AV.t (T.lst 1 p_1.fst p_1.snd)]]) fun l => gdK none l.head? fun x => gdK none (List.drop 1 l).head? fun x => gdK none x.bool? fun b_2 => gdK none
 (List.drop 1 l).tail.head? fun x => gdK none (T.lst? 1 x) fun p_2 => gdK none (O (Key.call 103) [AV.ref (Id.c 0) 0, AV.ref (Id.c 0) 0] [Blk.box [B b, AV.t (T.lst 1 p.fst p.snd)]]) fun l => gdK none l.head? fun x => gdK
 none (List.drop 1 l).head? fun x => gdK none x.bool? fun b => gdK none (List.drop 1 l).tail.head? fun x => gdK none (T.lst? 1 x) fun p => gdK none (O (Key.call 63) [AV.ref (Id.c 0) 0, AV.t (T.ptr [T.bool b_2, T.lst 1
 p_2.fst p_2.snd])] [Blk.box [B s, AV.t y, B t, AV.t u]]) fun l => gdK none l.head? fun x => gdK none (List.drop 1 l).head? fun x => gdK none x.bool? fun b_3 => gdK none (List.drop 1 l).tail.head? fun x => gdK none (T.lst?
 1 x) fun p_3 => gdK none (List.drop 1 l).tail.tail.head? fun x => gdK none x.bool? fun b_4 => gdK none (List.drop 1 l).tail.tail.tail.head? fun x => gdK none (T.lst? 1 x) fun p_4 => gdK none (O (Key.call 63) [AV.ref (Id.c
 0) 2, AV.t (T.ptr [T.bool b, T.lst 1 p.fst p.snd])] [Blk.box [B b_3, AV.t (T.lst 1 p_3.fst p_3.snd), B b_4, AV.t (T.lst 1 p_4.fst p_4.snd)]]) fun l => gdK none l.head? fun x => gdK none (List.drop 1 l).head? fun x => gdK
 none x.bool? fun b => gdK none (List.drop 1 l).tail.head? fun x => gdK none (T.lst? 1 x) fun p => gdK none (List.drop 1 l).tail.tail.head? fun x => gdK none x.bool? fun b_5 => gdK none (List.drop 1 l).tail.tail.tail.head?
 fun x => gdK none (T.lst? 1 x) fun p_5 => some [T.nilp, T.bool b, T.lst 1 p.fst p.snd, T.bool b_5, T.lst 1 p_5.fst p_5.snd] else gdK none (O (Key.call 63) [AV.ref (Id.c 0) 0, AV.t (T.ptr [T.bool b_1, T.lst 1 p_1.fst
 p_1.snd])] [Blk.box [B s, AV.t y, B t, AV.t u]]) fun l => gdK none l.head? fun x => gdK none (List.drop 1 l).head? fun x => gdK none x.bool? fun b_2 => gdK none (List.drop 1 l).tail.head? fun x => gdK none (T.lst? 1 x)
 fun p_2 => gdK none (List.drop 1 l).tail.tail.head? fun x => gdK none x.bool? fun b_3 => gdK none (List.drop 1 l).tail.tail.tail.head? fun x => gdK none (T.lst? 1 x) fun p_3 => gdK none (O (Key.call 63) [AV.ref (Id.c 0)
 2, AV.t (T.ptr [T.bool b, T.lst 1 p.fst p.snd])] [Blk.box [B b_2, AV.t (T.lst 1 p_2.fst p_2.snd), B b_3, AV.t (T.lst 1 p_3.fst p_3.snd)]]) fun l => gdK none l.head? fun x => gdK none (List.drop 1 l).head? fun x => gdK
 none x.bool? fun b => gdK none (List.drop 1 l).tail.head? fun x => gdK none (T.lst? 1 x) fun p => gdK none (List.drop 1 l).tail.tail.head? fun x => gdK none x.bool? fun b_4 => gdK none (List.drop 1 l).tail.tail.tail.head?
 fun x => gdK none (T.lst? 1 x) fun p_4 => some [T.nilp, T.bool b, T.lst 1 p.fst p.snd, T.bool b_4, T.lst 1 p_4.fst p_4.snd]) := by kernel_rfl
theorem e74 (O : Orc) (s2 : Bool) (eq2 : Bool) (d2 : List (List T)) (t2 : Bool) (f2 : Bool) (g2 : List (List T)) : stepO PROG ann O (Key.call 73) [AV.t (T.ptr [T.bool s2, T.lst 1 eq2 d2, T.bool t2, T.lst 1 f2 g2])] [] =
  (gdK none (O (Key.call 63) [AV.ref (Id.c 0) 0, AV.t (T.ptr [T.bool s2, T.lst 1 eq2 d2, T.bool t2, T.lst 1 f2 g2])] [Blk.box [B false, AV.t (T.emp true)]]) fun l => gdK none l.head? fun x => gdK none (List.drop 1 l).head?
 fun x => gdK none x.bool? fun b => gdK none (List.drop 1 l).tail.head? fun x => gdK none (T.lst? 1 x) fun p => some [T.ptr [T.bool b, T.lst 1 p.fst p.snd]]) := by kernel_rfl
theorem e75 (O : Orc) (s2 : Bool) (eq2 : Bool) (d2 : List (List T)) (t2 : Bool) (f2 : Bool) (g2 : List (List T)) : stepO PROG ann O (Key.call 74) [AV.t (T.ptr [T.bool s2, T.lst 1 eq2 d2, T.bool t2, T.lst 1 f2 g2])] [] =
  (gdK none (O (Key.call 59) [AV.t (T.ptr [T.bool t2, T.lst 1 f2 g2])] []) fun l => gdK none l.head? fun x => gdK none (T.int? IntKind.i64 x) fun n => bif n == (0 : Int) then gdK none (O (Key.call 27) [I (1 : Int)] []) fun l
 => gdK none l.head? fun x => some [x] else gdK none (O (Key.call 63) [AV.ref (Id.c 0) 0, AV.t (T.ptr [T.bool t2, T.lst 1 f2 g2])] [Blk.box [B false, AV.t (T.emp true)]]) fun l => gdK none l.head? fun x => gdK none
 (List.drop 1 l).head? fun x => gdK none x.bool? fun b => gdK none (List.drop 1 l).tail.head? fun x => gdK none (T.lst? 1 x) fun p => some [T.ptr [T.bool b, T.lst 1 p.fst p.snd]]) := by kernel_rfl
theorem e60 (O : Orc) (s2 : Bool) (eq2 : Bool) (d2 : List (List T)) (t2 : Bool) (f2 : Bool) (g2 : List (List T)) : stepO PROG ann O (Key.call 76) [AV.t (T.ptr [T.bool s2, T.lst 1 eq2 d2, T.bool t2, T.lst 1 f2 g2])] [] =
  (gdK none (O (Key.call 59) [AV.t (T.ptr [T.bool s2, T.lst 1 eq2 d2, T.bool t2, T.lst 1 f2 g2])] []) fun l => gdK none l.head? fun x => gdK none (T.int? IntKind.i64 x) fun n => some [T.int IntKind.i64 n]) := by kernel_rfl
theorem e56 (O : Orc) (s : Bool) (y : T) (t : Bool) (u : T) (s2 : Bool) (eq2 : Bool) (d2 : List (List T)) (t2 : Bool) (f2 : Bool) (g2 : List (List T)) (s3 : Bool) (eq3 : Bool) (d3 : List (List T)) (t3 : Bool) (f3 : Bool) (g3 : List (List T)) : stepO PROG ann O (Key.call 36) [AV.ref (Id.c 0) 0, AV.t (T.ptr [T.bool s2, T.lst 1 eq2 d2, T.bool t2, T.lst 1 f2 g2]), AV.t (T.ptr [T.bool s3, T.lst 1 eq3 d3, T.bool t3, T.lst 1 f3 g3])] [Blk.box [B s, AV.t y, B t, AV.t u]] =
  (gdK none (O (Key.call 73) [AV.t (T.ptr [T.bool s2, T.lst 1 eq2 d2, T.bool t2, T.lst 1 f2 g2])] []) fun l => gdK none l.head? fun x => gdK none (O (Key.call 73) [AV.t (T.ptr [T.bool s3, T.lst 1 eq3 d3, T.bool t3, T.lst 1 f3
 g3])] []) fun l => gdK none l.head? fun x_1 => gdK none (O (Key.call 72) [AV.ref (Id.c 0) 0, AV.t x, AV.t x_1] [Blk.box [B false, AV.t (T.emp true)]]) fun l => gdK none l.head? fun x => gdK none (List.drop 1 l).head? fun
 x => gdK none x.bool? fun b => gdK none (List.drop 1 l).tail.head? fun x => gdK none (T.lst? 1 x) fun p => gdK none (O (Key.call 74) [AV.t (T.ptr [T.bool s2, T.lst 1 eq2 d2, T.bool t2, T.lst 1 f2 g2])] []) fun l => gdK
 none l.head? fun x => gdK none (O (Key.call 74) [AV.t (T.ptr [T.bool s3, T.lst 1 eq3 d3, T.bool t3, T.lst 1 f3 g3])] []) fun l => gdK none l.head? fun x_2 => gdK none (O (Key.call 72) [AV.ref (Id.c 0) 0, AV.t x, AV.t x_2]
 [Blk.box [B false, AV.t (T.emp true)]]) fun l => gdK none l.head? fun x => gdK none (List.drop 1 l).head? fun x => gdK none x.bool? fun b_1 => gdK none (List.drop 1 l).tail.head? fun x => gdK none (T.lst? 1 x) fun p_1 =>
 gdK none (O (Key.call 69) [AV.ref (Id.c 0) 0, AV.t (T.ptr [T.bool b, T.lst 1 p.fst p.snd]), AV.t (T.ptr [T.bool b_1, T.lst 1 p_1.fst p_1.snd])] [Blk.box [B s, AV.t y, B t, AV.t u]]) fun l => gdK none l.head? fun x => gdK
 none (List.drop 1 l).head? fun x => gdK none x.bool? fun b => gdK none (List.drop 1 l).tail.head? fun x => gdK none (T.lst? 1 x) fun p => gdK none (List.drop 1 l).tail.tail.head? fun x => gdK none x.bool? fun b_2 => gdK
 none (List.drop 1 l).tail.tail.tail.head? fun x => gdK none (T.lst? 1 x) fun p_2 => some [T.nilp, T.bool b, T.lst 1 p.fst p.snd, T.bool b_2, T.lst 1 p_2.fst p_2.snd]) := by kernel_rfl
theorem e58 (O : Orc) (s : Bool) (y : T) (t : Bool) (u : T) (s2 : Bool) (eq2 : Bool) (d2 : List (List T)) (t2 : Bool) (f2 : Bool) (g2 : List (List T)) (s3 : Bool) (eq3 : Bool) (d3 : List (List T)) (t3 : Bool) (f3 : Bool) (g3 : List (List T)) : stepO PROG ann O (Key.call 34) [AV.ref (Id.c 0) 0, AV.t (T.ptr [T.bool s2, T.lst 1 eq2 d2, T.bool t2, T.lst 1 f2 g2]), AV.t (T.ptr [T.bool s3, T.lst 1 eq3 d3, T.bool t3, T.lst 1 f3 g3])] [Blk.box [B s, AV.t y, B t, AV.t u]] =
  (gdK none (O (Key.call 73) [AV.t (T.ptr [T.bool s2, T.lst 1 eq2 d2, T.bool t2, T.lst 1 f2 g2])] []) fun l => gdK none l.head? fun x => gdK none (O (Key.call 74) [AV.t (T.ptr [T.bool s3, T.lst 1 eq3 d3, T.bool t3, T.lst 1 f3
 g3])] []) fun l => gdK none l.head? fun x_1 => gdK none (O (Key.call 72) [AV.ref (Id.c 0) 0, AV.t x, AV.t x_1] [Blk.box [B false, AV.t (T.emp true)]]) fun l => gdK none l.head? fun x => gdK none (List.drop 1 l).head? fun
 x => gdK none x.bool? fun b => gdK none (List.drop 1 l).tail.head? fun x => gdK none (T.lst? 1 x) fun p => gdK none (O (Key.call 73) [AV.t (T.ptr [T.bool s3, T.lst 1 eq3 d3, T.bool t3, T.lst 1 f3 g3])] []) fun l => gdK
 none l.head? fun x => gdK none (O (Key.call 74) [AV.t (T.ptr [T.bool s2, T.lst 1 eq2 d2, T.bool t2, T.lst 1 f2 g2])] []) fun l => gdK none l.head? fun x_2 => gdK none (O (Key.call 72) [AV.ref (Id.c 0) 0, AV.t x, AV.t x_2]
 [Blk.box [B false, AV.t (T.emp true)]]) fun l => gdK none l.head? fun x => gdK none (List.drop 1 l).head? fun x => gdK none x.bool? fun b_1 => gdK none (List.drop 1 l).tail.head? fun x => gdK none (T.lst? 1 x) fun p_1 =>
 gdK none (O (Key.call 75) [AV.ref (Id.c 0) 0, AV.ref (Id.c 0) 0, AV.t (T.ptr [T.bool b_1, T.lst 1 p_1.fst p_1.snd])] [Blk.box [B b, AV.t (T.lst 1 p.fst p.snd)]]) fun l => gdK none l.head? fun x => gdK none (List.drop 1
 l).head? fun x => gdK none x.bool? fun b => gdK none (List.drop 1 l).tail.head? fun x => gdK none (T.lst? 1 x) fun p => gdK none (O (Key.call 74) [AV.t (T.ptr [T.bool s2, T.lst 1 eq2 d2, T.bool t2, T.lst 1 f2 g2])] []) fun
 l => gdK none l.head? fun x => gdK none (O (Key.call 74) [AV.t (T.ptr [T.bool s3, T.lst 1 eq3 d3, T.bool t3, T.lst 1 f3 g3])] []) fun l => gdK none l.head? fun x_3 => gdK none (O (Key.call 72) [AV.ref (Id.c 0) 0, AV.t x,
 AV.t x_3] [Blk.box [B false, AV.t (T.emp true)]]) fun l => gdK none l.head? fun x => gdK none (List.drop 1 l).head? fun x => gdK none x.bool? fun b_2 => gdK none (List.drop 1 l).tail.head? fun x => gdK none (T.lst? 1 x)
 fun p_2 => gdK none (O (Key.call 69) [AV.ref (Id.c 0) 0, AV.t (T.ptr [T.bool b, T.lst 1 p.fst p.snd]), AV.t (T.ptr [T.bool b_2, T.lst 1 p_2.fst p_2.snd])] [Blk.box [B s, AV.t y, B t, AV.t u]]) fun l => gdK none l.head?
 fun x => gdK none (List.drop 1 l).head? fun x => gdK none x.bool? fun b => gdK none (List.drop 1 l).tail.head? fun x => gdK none (T.lst? 1 x) fun p => gdK none (List.drop 1 l).tail.tail.head? fun x => gdK none x.bool? fun
 b_3 => gdK none (List.drop 1 l).tail.tail.tail.head? fun x => gdK none (T.lst? 1 x) fun p_3 => some [T.nilp, T.bool b, T.lst 1 p.fst p.snd, T.bool b_3, T.lst 1 p_3.fst p_3.snd]) := by kernel_rfl
theorem e59 (O : Orc) (s : Bool) (y : T) (t : Bool) (u : T) (s2 : Bool) (eq2 : Bool) (d2 : List (List T)) (t2 : Bool) (f2 : Bool) (g2 : List (List T)) (s3 : Bool) (eq3 : Bool) (d3 : List (List T)) (t3 : Bool) (f3 : Bool) (g3 : List (List T)) : stepO PROG ann O (Key.call 33) [AV.ref (Id.c 0) 0, AV.t (T.ptr [T.bool s2, T.lst 1 eq2 d2, T.bool t2, T.lst 1 f2 g2]), AV.t (T.ptr [T.bool s3, T.lst 1 eq3 d3, T.bool t3, T.lst 1 f3 g3])] [Blk.box [B s, AV.t y, B t, AV.t u]] =
  (gdK none (O (Key.call 71) [AV.ref (Id.c 0) 0, AV.t (T.ptr [T.bool s3, T.lst 1 eq3 d3, T.bool t3, T.lst 1 f3 g3])] [Blk.box [B false, AV.t (T.emp true), B false, AV.t (T.emp true)]]) fun l => gdK none l.head? fun x => gdK
 none (List.drop 1 l).head? fun x => gdK none x.bool? fun b => gdK none (List.drop 1 l).tail.head? fun x => gdK none (T.lst? 1 x) fun p => gdK none (List.drop 1 l).tail.tail.head? fun x => gdK none x.bool? fun b_1 => gdK
 none (List.drop 1 l).tail.tail.tail.head? fun x => gdK none (T.lst? 1 x) fun p_1 => gdK none (O (Key.call 34) [AV.ref (Id.c 0) 0, AV.t (T.ptr [T.bool s2, T.lst 1 eq2 d2, T.bool t2, T.lst 1 f2 g2]), AV.t (T.ptr [T.bool b,
 T.lst 1 p.fst p.snd, T.bool b_1, T.lst 1 p_1.fst p_1.snd])] [Blk.box [B s, AV.t y, B t, AV.t u]]) fun l => gdK none l.head? fun x => gdK none (List.drop 1 l).head? fun x => gdK none x.bool? fun b => gdK none (List.drop 1
 l).tail.head? fun x => gdK none (T.lst? 1 x) fun p => gdK none (List.drop 1 l).tail.tail.head? fun x => gdK none x.bool? fun b_2 => gdK none (List.drop 1 l).tail.tail.tail.head? fun x => gdK none (T.lst? 1 x) fun p_2 =>
 some [T.nilp, T.bool b, T.lst 1 p.fst p.snd, T.bool b_2, T.lst 1 p_2.fst p_2.snd]) := by kernel_rfl
theorem e76 (O : Orc) (s : Bool) (y : T) (t : Bool) (u : T) (s2 : Bool) (eq2 : Bool) (d2 : List (List T)) (t2 : Bool) (f2 : Bool) (g2 : List (List T)) : stepO PROG ann O (Key.call 71) [AV.ref (Id.c 0) 0, AV.t (T.ptr [T.bool s2, T.lst 1 eq2 d2, T.bool t2, T.lst 1 f2 g2])] [Blk.box [B s, AV.t y, B t, AV.t u]] =
  (gdK none (O (Key.call 103) [AV.ref (Id.c 0) 0, AV.t (T.ptr [T.bool s2, T.lst 1 eq2 d2, T.bool t2, T.lst 1 f2 g2])] [Blk.box [B false, AV.t (T.emp true)]]) fun l => gdK none l.head? fun x => gdK none (List.drop 1 l).head?
 fun x => gdK none x.bool? fun b => gdK none (List.drop 1 l).tail.head? fun x => gdK none (T.lst? 1 x) fun p => gdK none (O (Key.call 74) [AV.t (T.ptr [T.bool s2, T.lst 1 eq2 d2, T.bool t2, T.lst 1 f2 g2])] []) fun l => gdK
 none l.head? fun x => gdK none (O (Key.call 69) [AV.ref (Id.c 0) 0, AV.t (T.ptr [T.bool b, T.lst 1 p.fst p.snd]), AV.t x] [Blk.box [B s, AV.t y, B t, AV.t u]]) fun l => gdK none l.head? fun x => gdK none (List.drop 1
 l).head? fun x => gdK none x.bool? fun b => gdK none (List.drop 1 l).tail.head? fun x => gdK none (T.lst? 1 x) fun p => gdK none (List.drop 1 l).tail.tail.head? fun x => gdK none x.bool? fun b_1 => gdK none (List.drop 1
 l).tail.tail.tail.head? fun x => gdK none (T.lst? 1 x) fun p_1 => some [T.nilp, T.bool b, T.lst 1 p.fst p.snd, T.bool b_1, T.lst 1 p_1.fst p_1.snd]) := by kernel_rfl
theorem e42 (O : Orc) (s2 : Bool) (eq2 : Bool) (d2 : List (List T)) (t2 : Bool) (f2 : Bool) (g2 : List (List T)) (s3 : Bool) (eq3 : Bool) (d3 : List (List T)) (t3 : Bool) (f3 : Bool) (g3 : List (List T)) : stepO PROG ann O (Key.call 35) [AV.t (T.ptr [T.bool s2, T.lst 1 eq2 d2, T.bool t2, T.lst 1 f2 g2]), AV.t (T.ptr [T.bool s3, T.lst 1 eq3 d3, T.bool t3, T.lst 1 f3 g3])] [] =
  (gdK none (O (Key.call 33) [AV.ref (Id.c 0) 0, AV.t (T.ptr [T.bool s2, T.lst 1 eq2 d2, T.bool t2, T.lst 1 f2 g2]), AV.t (T.ptr [T.bool s3, T.lst 1 eq3 d3, T.bool t3, T.lst 1 f3 g3])] [Blk.box [B false, AV.t (T.emp true), B
 false, AV.t (T.emp true)]]) fun l => gdK none l.head? fun x => gdK none (List.drop 1 l).head? fun x => gdK none x.bool? fun b => gdK none (List.drop 1 l).tail.head? fun x => gdK none (T.lst? 1 x) fun p => gdK none
 (List.drop 1 l).tail.tail.head? fun x => gdK none x.bool? fun b_1 => gdK none (List.drop 1 l).tail.tail.tail.head? fun x => gdK none (T.lst? 1 x) fun p_1 => gdK none (O (Key.call 76) [AV.t (T.ptr [T.bool b, T.lst 1 p.fst
 p.snd, T.bool b_1, T.lst 1 p_1.fst p_1.snd])] []) fun l => gdK none l.head? fun x => gdK none (T.int? IntKind.i64 x) fun n => some [T.int IntKind.i64 n]) := by kernel_rfl
theorem e43 (O : Orc) (n m : Int) : stepO PROG ann O (Key.call 31) [I n, I m] [] =
  (gdK none (O (Key.call 27) [I n] []) fun l => gdK none l.head? fun x => gdK none (O (Key.call 27) [I m] []) fun l => gdK none l.head? fun x_1 => gdK none (O (Key.call 69) [AV.ref (Id.c 0) 0, AV.t x, AV.t x_1] [Blk.box [B
 false, AV.t (T.emp true), B false, AV.t (T.emp true)]]) fun l => gdK none l.head? fun x => gdK none (List.drop 1 l).head? fun x => gdK none x.bool? fun b => gdK none (List.drop 1 l).tail.head? fun x => gdK none (T.lst? 1
 x) fun p => gdK none (List.drop 1 l).tail.tail.head? fun x => gdK none x.bool? fun b_1 => gdK none (List.drop 1 l).tail.tail.tail.head? fun x => gdK none (T.lst? 1 x) fun p_1 => some [T.ptr [T.bool b, T.lst 1 p.fst p.snd,
 T.bool b_1, T.lst 1 p_1.fst p_1.snd]]) := by kernel_rfl
theorem e57 (O : Orc) (n m : Int) : stepO PROG ann O (Key.call 100) [AV.agg [I n, I m]] [] =
  (gdK none (O (Key.call 31) [I n, I m] []) fun l => gdK none l.head? fun x => some [x]) := by kernel_rfl
theorem e40 (O : Orc) (n m : Int) : stepO PROG ann O (Key.call 9) [AV.agg [I n, I m]] [] =
  (bif bif bif bif decide (m < (1 : Int)) then true else decide (m > (1073741824 : Int)) then true else decide (n < (-1073741824 : Int)) then true else decide (n > (1073741824 : Int)) then some [T.bool false] else gdK none
 (O (Key.call 27) [I n] []) fun l => gdK none l.head? fun x => gdK none (O (Key.call 27) [I m] []) fun l => gdK none l.head? fun x_1 => gdK none (O (Key.call 26) [AV.ref (Id.c 0) 0, AV.t T.nilp, AV.t T.nilp, AV.t x, AV.t
 x_1] [Blk.box [B false, AV.t (T.emp true)]]) fun l => gdK none l.head? fun x => gdK none (List.drop 1 l).head? fun x => gdK none x.bool? fun b => gdK none (List.drop 1 l).tail.head? fun x => gdK none (T.lst? 1 x) fun p =>
 gdK none (O (Key.call 27) [I (1 : Int)] []) fun l => gdK none l.head? fun x => gdK none (O (Key.call 28) [AV.t (T.ptr [T.bool b, T.lst 1 p.fst p.snd]), AV.t x] []) fun l => gdK none l.head? fun x => gdK none (T.int?
 IntKind.i64 x) fun n => some [T.bool (n == (0 : Int))]) := by kernel_rfl
theorem e41 (O : Orc) (eo : Bool) (of : List (List T)) (en : Bool) (n : List (List T)) : stepO PROG ann O (Key.call 85) [AV.t (T.lst 1 eo of), AV.t (T.lst 2 en n)] [] =
  (gdK none (O (Key.call 31) [I (0 : Int), I (1 : Int)] []) fun l => gdK none l.head? fun x => O K41n3 [AV.t (T.lst 1 eo of), AV.t (T.lst 2 en n), AV.t x, I (0 : Int)] []) := by kernel_rfl
theorem e41n3 (O : Orc) (ev0 : Bool) (v0 : List (List T)) (ev1 : Bool) (v1 : List (List T)) (v5 : T) (v6 : Int) : stepO PROG ann O K41n3 [(AV.t (T.lst 1 ev0 v0)), (AV.t (T.lst 2 ev1 v1)), (AV.t v5), (I v6)] [] =
  (bif decide (v6 < (↑v0.length : Int)) then gdK none (if (0 : Int) ≤ v6 ∧ v6 < (↑v1.length : Int) then some () else none) fun x => gdK none v1[v6.toNat]? fun l => gdK none l.head? fun x => gdK none l.tail.head? fun x_1 =>
 gdK none (T.int? IntKind.i64 x) fun n => gdK none (T.int? IntKind.i64 x_1) fun n_1 => gdK none (O (Key.call 100) [AV.agg [I n, I n_1]] []) fun l => gdK none l.head? fun x => gdK none (if (0 : Int) ≤ v6 ∧ v6 < (↑v0.length
 : Int) then some () else none) fun x_2 => gdK none v0[v6.toNat]? fun l => gdK none l.head? fun x_3 => gdK none (T.int? IntKind.i64 x_3) fun n => gdK none (O (Key.call 31) [I n, I (1 : Int)] []) fun l => gdK none l.head?
 fun x_4 => gdK none (O (Key.call 36) [AV.ref (Id.c 0) 0, AV.t x, AV.t x_4] [Blk.box [B false, AV.t (T.emp true), B false, AV.t (T.emp true)]]) fun l => gdK none l.head? fun x => gdK none (List.drop 1 l).head? fun x => gdK
 none x.bool? fun b => gdK none (List.drop 1 l).tail.head? fun x => gdK none (T.lst? 1 x) fun p => gdK none (List.drop 1 l).tail.tail.head? fun x => gdK none x.bool? fun b_1 => gdK none (List.drop 1 l).tail.tail.tail.head?
 fun x => gdK none (T.lst? 1 x) fun p_1 => gdK none (O (Key.call 34) [AV.ref (Id.c 0) 0, AV.t v5, AV.t (T.ptr [T.bool b, T.lst 1 p.fst p.snd, T.bool b_1, T.lst 1 p_1.fst p_1.snd])] [Blk.box [B false, AV.t (T.emp true), B
 false, AV.t (T.emp true)]]) fun l => gdK none l.head? fun x => gdK none (List.drop 1 l).head? fun x => gdK none x.bool? fun b => gdK none (List.drop 1 l).tail.head? fun x => gdK none (T.lst? 1 x) fun p => gdK none
 (List.drop 1 l).tail.tail.head? fun x => gdK none x.bool? fun b_2 => gdK none (List.drop 1 l).tail.tail.tail.head? fun x => gdK none (T.lst? 1 x) fun p_2 => O K41n3 [AV.t (T.lst 1 ev0 v0), AV.t (T.lst 2 ev1 v1), AV.t
 (T.ptr [T.bool b, T.lst 1 p.fst p.snd, T.bool b_2, T.lst 1 p_2.fst p_2.snd]), AV.t (T.int IntKind.i64 (IntKind.i64.wrap (v6 + (1 : Int))))] [] else some [v5]) := by kernel_rfl
theorem e79 (O : Orc) (ex : Bool) (x : List (List T)) (n : Int) : stepO PROG ann O (Key.call 131) [AV.t (T.lst 1 ex x), I n] [] =
  (gdK none (mkOk (IntKind.i64.wrap (IntKind.i64.wrap ((↑x.length : Int) + IntKind.i64.wrap (n.tdiv (32 : Int))) + (1 : Int))) (IntKind.i64.wrap (IntKind.i64.wrap ((↑x.length : Int) + IntKind.i64.wrap (n.tdiv (32 : Int))) +
 (1 : Int)))) fun x_1 => O K79n3 [I n, AV.own (Id.c 0), AV.t (T.lst 1 ex x), I (↑x.length : Int), I (0 : Int)] [Blk.sl false 1 false (List.replicate (IntKind.i64.wrap (IntKind.i64.wrap ((↑x.length : Int) +
 IntKind.i64.wrap (n.tdiv (32 : Int))) + (1 : Int))).toNat [T.int IntKind.u32 (0 : Int)])]) := by kernel_rfl
theorem e79n3 (O : Orc) (v1 : Int) (ev16 : Bool) (v16 : List (List T)) (v17 : Int) (v18 : Int) (ec0 : Bool) (c0 : List (List T)) : stepO PROG ann O K79n3 [(I v1), (AV.own (Id.c 0)), (AV.t (T.lst 1 ev16 v16)), (I v17), (I v18)] [(Blk.sl false 1 ec0 c0)] =
  (bif decide (v18 < v17) then gdK none (if (0 : Int) ≤ v18 ∧ v18 < (↑v16.length : Int) then some () else none) fun x => gdK none v16[v18.toNat]? fun l => gdK none l.head? fun x => gdK none (T.int? IntKind.u32 x) fun n =>
 gdK none (if v1.tmod (32 : Int) < (0 : Int) then none else some ()) fun x => gdK none (if (0 : Int) ≤ IntKind.i64.wrap (v18 + IntKind.i64.wrap (v1.tdiv (32 : Int))) ∧ IntKind.i64.wrap (v18 + IntKind.i64.wrap (v1.tdiv (32
 : Int))) < (↑c0.length : Int) then some () else none) fun x => gdK none c0[(IntKind.i64.wrap (v18 + IntKind.i64.wrap (v1.tdiv (32 : Int)))).toNat]? fun l => gdK none l.head? fun x => gdK none (T.int? IntKind.u32 x) fun
 n_1 => gdK none (if (0 : Int) ≤ IntKind.i64.wrap (v18 + IntKind.i64.wrap (v1.tdiv (32 : Int))) ∧ IntKind.i64.wrap (v18 + IntKind.i64.wrap (v1.tdiv (32 : Int))) < (↑c0.length : Int) then some () else none) fun x => gdK
 none (storeIn (IntKind.i64.wrap (v18 + IntKind.i64.wrap (v1.tdiv (32 : Int)))).toNat 0 [T.int IntKind.u32 (IntKind.u32.wrap (↑(BitVec.ofInt 32 n_1 ||| BitVec.ofInt 32 (IntKind.u32.wrap (IntKind.u64.wrap (IntKind.u64.wrap
 n * (2 : Int) ^ min (v1.tmod (32 : Int)).toNat 64)))).toNat : Int))] c0) fun l => gdK none (if (0 : Int) ≤ IntKind.i64.wrap (IntKind.i64.wrap (v18 + IntKind.i64.wrap (v1.tdiv (32 : Int))) + (1 : Int)) ∧ IntKind.i64.wrap
 (IntKind.i64.wrap (v18 + IntKind.i64.wrap (v1.tdiv (32 : Int))) + (1 : Int)) < (↑l.length : Int) then some () else none) fun x => gdK none (storeIn (IntKind.i64.wrap (IntKind.i64.wrap (v18 + IntKind.i64.wrap (v1.tdiv (32
 : Int))) + (1 : Int))).toNat 0 [T.int IntKind.u32 (IntKind.u32.wrap ((IntKind.u64.wrap (IntKind.u64.wrap n * (2 : Int) ^ min (v1.tmod (32 : Int)).toNat 64)).fdiv ((2 : Int) ^ 32)))] l) fun l => O K79n3 [I v1, AV.own
 (Id.c 0), AV.t (T.lst 1 ev16 v16), I v17, I (IntKind.i64.wrap (v18 + (1 : Int)))] [Blk.sl false 1 ec0 l] else some [T.lst 1 ec0 c0]) := by kernel_rfl
theorem e80 (O : Orc) (ex : Bool) (x : List (List T)) (n : Int) : stepO PROG ann O (Key.call 132) [AV.t (T.lst 1 ex x), I n] [] =
  (bif decide (IntKind.i64.wrap (n.tdiv (32 : Int)) ≥ (↑x.length : Int)) then some [T.emp true] else gdK none (inB (IntKind.i64.wrap (n.tdiv (32 : Int))) (↑x.length : Int) (↑x.length : Int)) fun x_1 => gdK none (mkOk (↑(sub
 (IntKind.i64.wrap (n.tdiv (32 : Int))) (↑x.length : Int) x).length : Int) (↑(sub (IntKind.i64.wrap (n.tdiv (32 : Int))) (↑x.length : Int) x).length : Int)) fun x_2 => O K80n6 [AV.t (T.lst 1 ex (sub (IntKind.i64.wrap
 (n.tdiv (32 : Int))) (↑x.length : Int) x)), I n, AV.own (Id.c 0), AV.t (T.lst 1 ex (sub (IntKind.i64.wrap (n.tdiv (32 : Int))) (↑x.length : Int) x)), I (↑(sub (IntKind.i64.wrap (n.tdiv (32 : Int))) (↑x.length : Int)
 x).length : Int), I (0 : Int)] [Blk.sl false 1 false (List.replicate (↑(sub (IntKind.i64.wrap (n.tdiv (32 : Int))) (↑x.length : Int) x).length : Int).toNat [T.int IntKind.u32 (0 : Int)])]) := by kernel_rfl
theorem e80n6 (O : Orc) (ev0 : Bool) (v0 : List (List T)) (v1 : Int) (ev20 : Bool) (v20 : List (List T)) (v21 : Int) (v22 : Int) (ec0 : Bool) (c0 : List (List T)) : stepO PROG ann O K80n6 [(AV.t (T.lst 1 ev0 v0)), (I v1), (AV.own (Id.c 0)), (AV.t (T.lst 1 ev20 v20)), (I v21), (I v22)] [(Blk.sl false 1 ec0 c0)] =
  (bif decide (v22 < v21) then gdK none (if (0 : Int) ≤ v22 ∧ v22 < (↑v20.length : Int) then some () else none) fun x => gdK none v20[v22.toNat]? fun l => gdK none l.head? fun x => gdK none (T.int? IntKind.u32 x) fun n =>
 gdK none (if v1.tmod (32 : Int) < (0 : Int) then none else some ()) fun x => gdK none (if (0 : Int) ≤ v22 ∧ v22 < (↑c0.length : Int) then some () else none) fun x => gdK none (storeIn v22.toNat 0 [T.int IntKind.u32
 (n.fdiv ((2 : Int) ^ min (v1.tmod (32 : Int)).toNat 32))] c0) fun l => bif bif decide (IntKind.i64.wrap (v22 + (1 : Int)) < (↑v0.length : Int)) then decide (v1.tmod (32 : Int) > (0 : Int)) else false then gdK none (if (0
 : Int) ≤ v22 ∧ v22 < (↑l.length : Int) then some () else none) fun x => gdK none l[v22.toNat]? fun l_1 => gdK none l_1.head? fun x => gdK none (T.int? IntKind.u32 x) fun n => gdK none (if (0 : Int) ≤ IntKind.i64.wrap (v22
 + (1 : Int)) ∧ IntKind.i64.wrap (v22 + (1 : Int)) < (↑v0.length : Int) then some () else none) fun x => gdK none v0[(IntKind.i64.wrap (v22 + (1 : Int))).toNat]? fun l_2 => gdK none l_2.head? fun x => gdK none (T.int?
 IntKind.u32 x) fun n_1 => gdK none (if IntKind.i64.wrap ((32 : Int) - v1.tmod (32 : Int)) < (0 : Int) then none else some ()) fun x => gdK none (if (0 : Int) ≤ v22 ∧ v22 < (↑l.length : Int) then some () else none) fun x
 => gdK none (storeIn v22.toNat 0 [T.int IntKind.u32 (IntKind.u32.wrap (↑(BitVec.ofInt 32 n ||| BitVec.ofInt 32 (IntKind.u32.wrap (n_1 * (2 : Int) ^ min (IntKind.i64.wrap ((32 : Int) - v1.tmod (32 : Int))).toNat
 32))).toNat : Int))] l) fun l => O K80n6 [AV.t (T.lst 1 ev0 v0), I v1, AV.own (Id.c 0), AV.t (T.lst 1 ev20 v20), I v21, I (IntKind.i64.wrap (v22 + (1 : Int)))] [Blk.sl false 1 ec0 l] else O K80n6 [AV.t (T.lst 1 ev0 v0),
 I v1, AV.own (Id.c 0), AV.t (T.lst 1 ev20 v20), I v21, I (IntKind.i64.wrap (v22 + (1 : Int)))] [Blk.sl false 1 ec0 l] else some [T.lst 1 ec0 c0]) := by kernel_rfl
theorem e78 (O : Orc) (ex : Bool) (x : List (List T)) (ey : Bool) (y : List (List T)) : stepO PROG ann O (Key.call 130) [AV.t (T.lst 1 ex x), AV.t (T.lst 1 ey y)] [] =
  (bif (↑y.length : Int) == (1 : Int) then gdK none (mkOk (↑x.length : Int) (↑x.length : Int)) fun x_1 => O K78n4 [AV.t (T.lst 1 ex x), AV.t (T.lst 1 ey y), AV.own (Id.c 0), AV.t (T.int IntKind.u64 (0 : Int)), I
 (IntKind.i64.wrap ((↑x.length : Int) - (1 : Int)))] [Blk.sl false 1 false (List.replicate (↑x.length : Int).toNat [T.int IntKind.u32 (0 : Int)])] else O K78n11 [AV.t (T.lst 1 ex x), AV.t (T.lst 1 ey y), I (0 : Int)] []) := by kernel_rfl
theorem e78n4 (O : Orc) (ev0 : Bool) (v0 : List (List T)) (ev1 : Bool) (v1 : List (List T)) (v7 : Int) (v8 : Int) (ec0 : Bool) (c0 : List (List T)) : stepO PROG ann O K78n4 [(AV.t (T.lst 1 ev0 v0)), (AV.t (T.lst 1 ev1 v1)), (AV.own (Id.c 0)), (AV.t (T.int IntKind.u64 v7)), (I v8)] [(Blk.sl false 1 ec0 c0)] =
  (bif decide (v8 ≥ (0 : Int)) then gdK none (if (0 : Int) ≤ v8 ∧ v8 < (↑v0.length : Int) then some () else none) fun x => gdK none v0[v8.toNat]? fun l => gdK none l.head? fun x => gdK none (T.int? IntKind.u32 x) fun n =>
 gdK none (if (0 : Int) ≤ (0 : Int) ∧ (0 : Int) < (↑v1.length : Int) then some () else none) fun x => gdK none v1[0]? fun l => gdK none l.head? fun x => gdK none (T.int? IntKind.u32 x) fun n_1 => gdK none (if
 IntKind.u64.wrap n_1 = (0 : Int) then none else some ()) fun x => gdK none (if (0 : Int) ≤ v8 ∧ v8 < (↑c0.length : Int) then some () else none) fun x => gdK none (storeIn v8.toNat 0 [T.int IntKind.u32 (IntKind.u32.wrap
 (IntKind.u64.wrap ((IntKind.u64.wrap (↑(BitVec.ofInt 64 (IntKind.u64.wrap (v7 * (2 : Int) ^ 32)) ||| BitVec.ofInt 64 (IntKind.u64.wrap n)).toNat : Int)).tdiv (IntKind.u64.wrap n_1))))] c0) fun l => gdK none (if (0 : Int)
 ≤ (0 : Int) ∧ (0 : Int) < (↑v1.length : Int) then some () else none) fun x => gdK none v1[0]? fun l_1 => gdK none l_1.head? fun x => gdK none (T.int? IntKind.u32 x) fun n_2 => gdK none (if IntKind.u64.wrap n_2 = (0 : Int)
 then none else some ()) fun x => O K78n4 [AV.t (T.lst 1 ev0 v0), AV.t (T.lst 1 ev1 v1), AV.own (Id.c 0), AV.t (T.int IntKind.u64 ((IntKind.u64.wrap (↑(BitVec.ofInt 64 (IntKind.u64.wrap (v7 * (2 : Int) ^ 32)) |||
 BitVec.ofInt 64 (IntKind.u64.wrap n)).toNat : Int)).tmod (IntKind.u64.wrap n_2))), I (IntKind.i64.wrap (v8 - (1 : Int)))] [Blk.sl false 1 ec0 l] else some [T.lst 1 ec0 c0, T.lst 1 false [[T.int IntKind.u32
 (IntKind.u32.wrap v7)]]]) := by kernel_rfl
theorem e78n11 (O : Orc) (ev0 : Bool) (v0 : List (List T)) (ev1 : Bool) (v1 : List (List T)) (v9 : Int) : stepO PROG ann O K78n11 [(AV.t (T.lst 1 ev0 v0)), (AV.t (T.lst 1 ev1 v1)), (I v9)] [] =
  (gdK none (if (0 : Int) ≤ IntKind.i64.wrap ((↑v1.length : Int) - (1 : Int)) ∧ IntKind.i64.wrap ((↑v1.length : Int) - (1 : Int)) < (↑v1.length : Int) then some () else none) fun x => gdK none v1[(IntKind.i64.wrap
 ((↑v1.length : Int) - (1 : Int))).toNat]? fun l => gdK none l.head? fun x => gdK none (T.int? IntKind.u32 x) fun n => gdK none (if v9 < (0 : Int) then none else some ()) fun x => bif (IntKind.u32.wrap (n * (2 : Int) ^ min
 v9.toNat 32)).fdiv ((2 : Int) ^ 31) == (0 : Int) then O K78n11 [AV.t (T.lst 1 ev0 v0), AV.t (T.lst 1 ev1 v1), I (IntKind.i64.wrap (v9 + (1 : Int)))] [] else gdK none (O (Key.call 131) [AV.t (T.lst 1 ev1 v1), I v9] [])
 fun l => gdK none l.head? fun x => gdK none (T.lst? 1 x) fun p => gdK none (inB (0 : Int) (↑v1.length : Int) (↑p.snd.length : Int)) fun x => gdK none (O (Key.call 131) [AV.t (T.lst 1 ev0 v0), I v9] []) fun l => gdK none
 l.head? fun x => gdK none (T.lst? 1 x) fun p_1 => gdK none (mkOk (↑p_1.snd.length : Int) (↑p_1.snd.length : Int)) fun x => O K78n17 [I v9, I (↑v1.length : Int), AV.t (T.lst 1 p.fst (List.take ((↑v1.length : Int).toNat -
 0) (List.drop 0 p.snd))), AV.own (Id.c 0), AV.own (Id.c 1), AV.t (T.int IntKind.i64 (IntKind.i64.wrap (IntKind.i64.wrap ((↑p_1.snd.length : Int) - (↑v1.length : Int)) - (1 : Int))))] [Blk.sl false 1 p_1.fst p_1.snd,
 Blk.sl false 1 false (List.replicate (↑p_1.snd.length : Int).toNat [T.int IntKind.u32 (0 : Int)])]) := by kernel_rfl
theorem e78n17 (O : Orc) (v9 : Int) (v10 : Int) (ev11 : Bool) (v11 : List (List T)) (v14 : Int) (ec0 : Bool) (c0 : List (List T)) (ec1 : Bool) (c1 : List (List T)) : stepO PROG ann O K78n17 [(I v9), (I v10), (AV.t (T.lst 1 ev11 v11)), (AV.own (Id.c 0)), (AV.own (Id.c 1)), (I v14)] [(Blk.sl false 1 ec0 c0), (Blk.sl false 1 ec1 c1)] =
  (bif decide (v14 ≥ (0 : Int)) then gdK none (if (0 : Int) ≤ IntKind.i64.wrap (v14 + v10) ∧ IntKind.i64.wrap (v14 + v10) < (↑c0.length : Int) then some () else none) fun x => gdK none c0[(IntKind.i64.wrap (v14 +
 v10)).toNat]? fun l => gdK none l.head? fun x => gdK none (T.int? IntKind.u32 x) fun n => gdK none (if (0 : Int) ≤ IntKind.i64.wrap (IntKind.i64.wrap (v14 + v10) - (1 : Int)) ∧ IntKind.i64.wrap (IntKind.i64.wrap (v14 +
 v10) - (1 : Int)) < (↑c0.length : Int) then some () else none) fun x => gdK none c0[(IntKind.i64.wrap (IntKind.i64.wrap (v14 + v10) - (1 : Int))).toNat]? fun l => gdK none l.head? fun x => gdK none (T.int? IntKind.u32 x)
 fun n_1 => gdK none (if (0 : Int) ≤ IntKind.i64.wrap (v10 - (1 : Int)) ∧ IntKind.i64.wrap (v10 - (1 : Int)) < (↑v11.length : Int) then some () else none) fun x => gdK none v11[(IntKind.i64.wrap (v10 - (1 : Int))).toNat]?
 fun l => gdK none l.head? fun x => gdK none (T.int? IntKind.u32 x) fun n_2 => gdK none (if IntKind.u64.wrap n_2 = (0 : Int) then none else some ()) fun x => gdK none (if (0 : Int) ≤ IntKind.i64.wrap (v10 - (1 : Int)) ∧
 IntKind.i64.wrap (v10 - (1 : Int)) < (↑v11.length : Int) then some () else none) fun x => gdK none v11[(IntKind.i64.wrap (v10 - (1 : Int))).toNat]? fun l => gdK none l.head? fun x => gdK none (T.int? IntKind.u32 x) fun
 n_3 => gdK none (if IntKind.u64.wrap n_3 = (0 : Int) then none else some ()) fun x => O K78n21 [I v9, I v10, AV.t (T.lst 1 ev11 v11), AV.own (Id.c 0), AV.own (Id.c 1), I v14, AV.t (T.int IntKind.u64 (IntKind.u64.wrap
 ((IntKind.u64.wrap (↑(BitVec.ofInt 64 (IntKind.u64.wrap (IntKind.u64.wrap n * (2 : Int) ^ 32)) ||| BitVec.ofInt 64 (IntKind.u64.wrap n_1)).toNat : Int)).tdiv (IntKind.u64.wrap n_2)))), AV.t (T.int IntKind.u64
 ((IntKind.u64.wrap (↑(BitVec.ofInt 64 (IntKind.u64.wrap (IntKind.u64.wrap n * (2 : Int) ^ 32)) ||| BitVec.ofInt 64 (IntKind.u64.wrap n_1)).toNat : Int)).tmod (IntKind.u64.wrap n_3)))] [Blk.sl false 1 ec0 c0, Blk.sl false
 1 ec1 c1] else gdK none (inB (0 : Int) v10 (↑c0.length : Int)) fun x => gdK none (O (Key.call 132) [AV.t (T.lst 1 ec0 (List.take (v10.toNat - 0) c0)), I v9] []) fun l => gdK none l.head? fun x => gdK none (T.lst? 1 x) fun
 p => some [T.lst 1 ec1 c1, T.lst 1 p.fst p.snd]) := by kernel_rfl
theorem e78n21 (O : Orc) (v9 : Int) (v10 : Int) (ev11 : Bool) (v11 : List (List T)) (v14 : Int) (v16 : Int) (v17 : Int) (ec0 : Bool) (c0 : List (List T)) (ec1 : Bool) (c1 : List (List T)) : stepO PROG ann O K78n21 [(I v9), (I v10), (AV.t (T.lst 1 ev11 v11)), (AV.own (Id.c 0)), (AV.own (Id.c 1)), (I v14), (AV.t (T.int IntKind.u64 v16)), (AV.t (T.int IntKind.u64 v17))] [(Blk.sl false 1 ec0 c0), (Blk.sl false 1 ec1 c1)] =
  (gdK (some !!v16.fdiv ((2 : Int) ^ 32) == (0 : Int)) (if (0 : Int) ≤ IntKind.i64.wrap (v10 - (2 : Int)) ∧ IntKind.i64.wrap (v10 - (2 : Int)) < (↑v11.length : Int) then some () else none) fun x => gdK (some !!v16.fdiv ((2 :
 Int) ^ 32) == (0 : Int)) v11[(IntKind.i64.wrap (v10 - (2 : Int))).toNat]? fun l => gdK (some !!v16.fdiv ((2 : Int) ^ 32) == (0 : Int)) l.head? fun x => gdK (some !!v16.fdiv ((2 : Int) ^ 32) == (0 : Int)) (T.int?
 IntKind.u32 x) fun n => gdK (some !!v16.fdiv ((2 : Int) ^ 32) == (0 : Int)) (if (0 : Int) ≤ IntKind.i64.wrap (IntKind.i64.wrap (v14 + v10) - (2 : Int)) ∧ IntKind.i64.wrap (IntKind.i64.wrap (v14 + v10) - (2 : Int)) <
 (↑c0.length : Int) then some () else none) fun x => gdK (some !!v16.fdiv ((2 : Int) ^ 32) == (0 : Int)) c0[(IntKind.i64.wrap (IntKind.i64.wrap (v14 + v10) - (2 : Int))).toNat]? fun l => gdK (some !!v16.fdiv ((2 : Int) ^
 32) == (0 : Int)) l.head? fun x => gdK (some !!v16.fdiv ((2 : Int) ^ 32) == (0 : Int)) (T.int? IntKind.u32 x) fun n_1 => bif bif !v16.fdiv ((2 : Int) ^ 32) == (0 : Int) then true else decide (IntKind.u64.wrap (v16 *
 IntKind.u64.wrap n) > IntKind.u64.wrap (↑(BitVec.ofInt 64 (IntKind.u64.wrap (v17 * (2 : Int) ^ 32)) ||| BitVec.ofInt 64 (IntKind.u64.wrap n_1)).toNat : Int)) then gdK none (if (0 : Int) ≤ IntKind.i64.wrap (v10 - (1 :
 Int)) ∧ IntKind.i64.wrap (v10 - (1 : Int)) < (↑v11.length : Int) then some () else none) fun x => gdK none v11[(IntKind.i64.wrap (v10 - (1 : Int))).toNat]? fun l => gdK none l.head? fun x => gdK none (T.int? IntKind.u32
 x) fun n => bif !(IntKind.u64.wrap (v17 + IntKind.u64.wrap n)).fdiv ((2 : Int) ^ 32) == (0 : Int) then O K78n27 [I v9, I v10, AV.t (T.lst 1 ev11 v11), AV.own (Id.c 0), AV.own (Id.c 1), I v14, AV.t (T.int IntKind.u64
 (IntKind.u64.wrap (v16 - (1 : Int)))), AV.t (T.int IntKind.u64 (0 : Int)), AV.t (T.int IntKind.u64 (0 : Int)), AV.t (T.lst 1 ev11 v11), I (↑v11.length : Int), I (0 : Int)] [Blk.sl false 1 ec0 c0, Blk.sl false 1 ec1 c1]
 else O K78n21 [I v9, I v10, AV.t (T.lst 1 ev11 v11), AV.own (Id.c 0), AV.own (Id.c 1), I v14, AV.t (T.int IntKind.u64 (IntKind.u64.wrap (v16 - (1 : Int)))), AV.t (T.int IntKind.u64 (IntKind.u64.wrap (v17 +
 IntKind.u64.wrap n)))] [Blk.sl false 1 ec0 c0, Blk.sl false 1 ec1 c1] else O K78n27 [I v9, I v10, AV.t (T.lst 1 ev11 v11), AV.own (Id.c 0), AV.own (Id.c 1), I v14, AV.t (T.int IntKind.u64 v16), AV.t (T.int IntKind.u64 (0
 : Int)), AV.t (T.int IntKind.u64 (0 : Int)), AV.t (T.lst 1 ev11 v11), I (↑v11.length : Int), I (0 : Int)] [Blk.sl false 1 ec0 c0, Blk.sl false 1 ec1 c1]) := by kernel_rfl
theorem e78n27 (O : Orc) (v9 : Int) (v10 : Int) (ev11 : Bool) (v11 : List (List T)) (v14 : Int) (v16 : Int) (v18 : Int) (v19 : Int) (ev172 : Bool) (v172 : List (List T)) (v173 : Int) (v174 : Int) (ec0 : Bool) (c0 : List (List T)) (ec1 : Bool) (c1 : List (List T)) : stepO PROG ann O K78n27 [(I v9), (I v10), (AV.t (T.lst 1 ev11 v11)), (AV.own (Id.c 0)), (AV.own (Id.c 1)), (I v14), (AV.t (T.int IntKind.u64 v16)), (AV.t (T.int IntKind.u64 v18)), (AV.t (T.int IntKind.u64 v19)), (AV.t (T.lst 1 ev172 v172)), (I v173), (I v174)] [(Blk.sl false 1 ec0 c0), (Blk.sl false 1 ec1 c1)] =
  (bif decide (v174 < v173) then gdK none (if (0 : Int) ≤ v174 ∧ v174 < (↑v172.length : Int) then some () else none) fun x => gdK none v172[v174.toNat]? fun l => gdK none l.head? fun x => gdK none (T.int? IntKind.u32 x) fun
 n => gdK none (if (0 : Int) ≤ IntKind.i64.wrap (v14 + v174) ∧ IntKind.i64.wrap (v14 + v174) < (↑c0.length : Int) then some () else none) fun x => gdK none c0[(IntKind.i64.wrap (v14 + v174)).toNat]? fun l => gdK none
 l.head? fun x => gdK none (T.int? IntKind.u32 x) fun n_1 => gdK none (if (0 : Int) ≤ IntKind.i64.wrap (v14 + v174) ∧ IntKind.i64.wrap (v14 + v174) < (↑c0.length : Int) then some () else none) fun x => gdK none (storeIn
 (IntKind.i64.wrap (v14 + v174)).toNat 0 [T.int IntKind.u32 (IntKind.u32.wrap (IntKind.u64.wrap (IntKind.u64.wrap (IntKind.u64.wrap n_1 - IntKind.u64.wrap (IntKind.u32.wrap (IntKind.u64.wrap (v18 + IntKind.u64.wrap (v16 *
 IntKind.u64.wrap n))))) - v19)))] c0) fun l => O K78n27 [I v9, I v10, AV.t (T.lst 1 ev11 v11), AV.own (Id.c 0), AV.own (Id.c 1), I v14, AV.t (T.int IntKind.u64 v16), AV.t (T.int IntKind.u64 ((IntKind.u64.wrap (v18 +
 IntKind.u64.wrap (v16 * IntKind.u64.wrap n))).fdiv ((2 : Int) ^ 32))), AV.t (T.int IntKind.u64 ((IntKind.u64.wrap (IntKind.u64.wrap (IntKind.u64.wrap n_1 - IntKind.u64.wrap (IntKind.u32.wrap (IntKind.u64.wrap (v18 +
 IntKind.u64.wrap (v16 * IntKind.u64.wrap n))))) - v19)).fdiv ((2 : Int) ^ 63))), AV.t (T.lst 1 ev172 v172), I v173, I (IntKind.i64.wrap (v174 + (1 : Int)))] [Blk.sl false 1 ec0 l, Blk.sl false 1 ec1 c1] else gdK none (if
 (0 : Int) ≤ IntKind.i64.wrap (v14 + v10) ∧ IntKind.i64.wrap (v14 + v10) < (↑c0.length : Int) then some () else none) fun x => gdK none c0[(IntKind.i64.wrap (v14 + v10)).toNat]? fun l => gdK none l.head? fun x => gdK none
 (T.int? IntKind.u32 x) fun n => gdK none (if (0 : Int) ≤ IntKind.i64.wrap (v14 + v10) ∧ IntKind.i64.wrap (v14 + v10) < (↑c0.length : Int) then some () else none) fun x => gdK none (storeIn (IntKind.i64.wrap (v14 +
 v10)).toNat 0 [T.int IntKind.u32 (IntKind.u32.wrap (IntKind.u64.wrap (IntKind.u64.wrap (IntKind.u64.wrap n - v18) - v19)))] c0) fun l => bif (IntKind.u64.wrap (IntKind.u64.wrap (IntKind.u64.wrap n - v18) - v19)).fdiv ((2
 : Int) ^ 63) == (1 : Int) then O K78n41 [I v9, I v10, AV.t (T.lst 1 ev11 v11), AV.own (Id.c 0), AV.own (Id.c 1), I v14, AV.t (T.int IntKind.u64 (IntKind.u64.wrap (v16 - (1 : Int)))), AV.t (T.int IntKind.u64 (0 : Int)),
 AV.t (T.lst 1 ev11 v11), I (↑v11.length : Int), I (0 : Int)] [Blk.sl false 1 ec0 l, Blk.sl false 1 ec1 c1] else gdK none (if (0 : Int) ≤ v14 ∧ v14 < (↑c1.length : Int) then some () else none) fun x => gdK none (storeIn
 v14.toNat 0 [T.int IntKind.u32 (IntKind.u32.wrap v16)] c1) fun l_1 => O K78n17 [I v9, I v10, AV.t (T.lst 1 ev11 v11), AV.own (Id.c 0), AV.own (Id.c 1), I (IntKind.i64.wrap (v14 - (1 : Int)))] [Blk.sl false 1 ec0 l,
 Blk.sl false 1 ec1 l_1]) := by kernel_rfl
theorem e78n41 (O : Orc) (v9 : Int) (v10 : Int) (ev11 : Bool) (v11 : List (List T)) (v14 : Int) (v16 : Int) (v18 : Int) (ev233 : Bool) (v233 : List (List T)) (v234 : Int) (v235 : Int) (ec0 : Bool) (c0 : List (List T)) (ec1 : Bool) (c1 : List (List T)) : stepO PROG ann O K78n41 [(I v9), (I v10), (AV.t (T.lst 1 ev11 v11)), (AV.own (Id.c 0)), (AV.own (Id.c 1)), (I v14), (AV.t (T.int IntKind.u64 v16)), (AV.t (T.int IntKind.u64 v18)), (AV.t (T.lst 1 ev233 v233)), (I v234), (I v235)] [(Blk.sl false 1 ec0 c0), (Blk.sl false 1 ec1 c1)] =
  (bif decide (v235 < v234) then gdK none (if (0 : Int) ≤ v235 ∧ v235 < (↑v233.length : Int) then some () else none) fun x => gdK none v233[v235.toNat]? fun l => gdK none l.head? fun x => gdK none (T.int? IntKind.u32 x) fun
 n => gdK none (if (0 : Int) ≤ IntKind.i64.wrap (v14 + v235) ∧ IntKind.i64.wrap (v14 + v235) < (↑c0.length : Int) then some () else none) fun x => gdK none c0[(IntKind.i64.wrap (v14 + v235)).toNat]? fun l => gdK none
 l.head? fun x => gdK none (T.int? IntKind.u32 x) fun n_1 => gdK none (if (0 : Int) ≤ IntKind.i64.wrap (v14 + v235) ∧ IntKind.i64.wrap (v14 + v235) < (↑c0.length : Int) then some () else none) fun x => gdK none (storeIn
 (IntKind.i64.wrap (v14 + v235)).toNat 0 [T.int IntKind.u32 (IntKind.u32.wrap (IntKind.u64.wrap (v18 + IntKind.u64.wrap (IntKind.u64.wrap n_1 + IntKind.u64.wrap n))))] c0) fun l => O K78n41 [I v9, I v10, AV.t (T.lst 1
 ev11 v11), AV.own (Id.c 0), AV.own (Id.c 1), I v14, AV.t (T.int IntKind.u64 v16), AV.t (T.int IntKind.u64 ((IntKind.u64.wrap (v18 + IntKind.u64.wrap (IntKind.u64.wrap n_1 + IntKind.u64.wrap n))).fdiv ((2 : Int) ^ 32))),
 AV.t (T.lst 1 ev233 v233), I v234, I (IntKind.i64.wrap (v235 + (1 : Int)))] [Blk.sl false 1 ec0 l, Blk.sl false 1 ec1 c1] else gdK none (if (0 : Int) ≤ IntKind.i64.wrap (v14 + v10) ∧ IntKind.i64.wrap (v14 + v10) <
 (↑c0.length : Int) then some () else none) fun x => gdK none c0[(IntKind.i64.wrap (v14 + v10)).toNat]? fun l => gdK none l.head? fun x => gdK none (T.int? IntKind.u32 x) fun n => gdK none (if (0 : Int) ≤ IntKind.i64.wrap
 (v14 + v10) ∧ IntKind.i64.wrap (v14 + v10) < (↑c0.length : Int) then some () else none) fun x => gdK none (storeIn (IntKind.i64.wrap (v14 + v10)).toNat 0 [T.int IntKind.u32 (IntKind.u32.wrap (n + IntKind.u32.wrap v18))]
 c0) fun l => gdK none (if (0 : Int) ≤ v14 ∧ v14 < (↑c1.length : Int) then some () else none) fun x => gdK none (storeIn v14.toNat 0 [T.int IntKind.u32 (IntKind.u32.wrap v16)] c1) fun l_1 => O K78n17 [I v9, I v10, AV.t
 (T.lst 1 ev11 v11), AV.own (Id.c 0), AV.own (Id.c 1), I (IntKind.i64.wrap (v14 - (1 : Int)))] [Blk.sl false 1 ec0 l, Blk.sl false 1 ec1 l_1]) := by kernel_rfl
open Go Go.Aev Go.Aev.Gen

def val : List Int → Int
  | [] => 0
  | a :: r => a + 4294967296 * val r
def Dg (d : List Int) : Prop := ∀ a ∈ d, 0 ≤ a ∧ a < 4294967296
def encD (d : List Int) : List (List T) := d.map fun a => [T.int .u32 a]
theorem encD_len (d : List Int) : (encD d).length = d.length := by simp [encD]
def dat (d : List Int) (i : Nat) : Int := d.getD i 0
theorem encD_at {d : List Int} {i : Nat} (h : i < d.length) : (encD d)[((i : Nat) : Int).toNat]? = some [T.int .u32 (dat d i)] := by
  simp [encD, dat, List.getD_eq_getElem?_getD, h]
theorem val_nonneg : ∀ {d : List Int}, Dg d → 0 ≤ val d
  | [], _ => Int.le_refl _
  | a :: d, h => by
    have h1 := h a List.mem_cons_self
    have h2 := val_nonneg (d := d) fun b hb => h b (List.mem_cons_of_mem _ hb)
    simp only [val]; omega
theorem val_append : ∀ (a b : List Int), val (a ++ b) = val a + 4294967296 ^ a.length * val b
  | [], b => by simp [val]
  | x :: a, b => by
    simp only [List.cons_append, val, val_append a b, List.length_cons, Int.pow_succ, Int.mul_add]
    rw [Int.mul_assoc, Int.mul_left_comm]
    omega
/-- How many digits are left where the noughts at the end are taken away. -/
def trimN (d : List Int) : Nat → Nat
  | 0 => 0
  | k + 1 => if dat d k = 0 then trimN d k else k + 1
def trim (d : List Int) : List Int := d.take (trimN d d.length)
theorem trimN_le (d : List Int) : ∀ k, trimN d k ≤ k
  | 0 => Nat.le_refl _
  | k + 1 => by
    rw [trimN]
    split
    · have := trimN_le d k; omega
    · exact Nat.le_refl _
theorem trimN_val {d : List Int} : ∀ k, k ≤ d.length → val (d.take (trimN d k)) = val (d.take k)
  | 0, _ => rfl
  | k + 1, h => by
    rw [trimN]
    split
    · rename_i hz
      rw [trimN_val k (by omega), List.take_add_one, val_append]
      have : d[k]? = some 0 := by
        have hk : k < d.length := by omega
        simp only [dat, List.getD_eq_getElem?_getD, List.getElem?_eq_getElem hk, Option.getD_some] at hz
        rw [List.getElem?_eq_getElem hk, hz]
      rw [this]
      simp [val]
    · rfl
theorem trim_val (d : List Int) : val (trim d) = val d := by
  rw [trim, trimN_val d.length (Nat.le_refl _), List.take_length]
theorem n51 (s e : Bool) (d : List Int) (hd : d.length ≤ 1000) : ∀ (k : Nat), k ≤ d.length →
    Or K51n2m2 [r0, I (k : Int)] [Blk.box [AV.t (T.bool s), o1], Blk.sl false 1 e (encD d)] = some [T.nilp, tb (s && decide (trimN d k ≠ 0)), T.lst 1 e (encD (d.take (trimN d k)))]
  | 0, hk => by
    refine orc_of ?_
    rw [e51n2]
    have hi : inB 0 ((0 : Nat) : Int) (d.length : Int) = some () := by unfold inB; rw [if_pos (by omega)]
    have h0 : ¬ ((0 : Nat) : Int) > 0 := by omega
    have h1 : ((0 : Nat) : Int) = 0 := rfl
    simp only [STL, ↓reduceIte, Int.reduceBEq, Int.reduceEq, gdF, h0, encD_len, decide_false, hi]
    simp [trimN, encD]
  | k + 1, hk => by
    refine orc_of ?_
    rw [e51n2]
    have h0 : ((k + 1 : Nat) : Int) > 0 := by omega
    have hw : IntKind.i64.wrap (((k + 1 : Nat) : Int) - 1) = (k : Int) := by rw [wr (by omega)]; omega
    have h2 : 0 ≤ (k : Int) ∧ (k : Int) < (d.length : Int) := by omega
    have hi : inB 0 ((k + 1 : Nat) : Int) (d.length : Int) = some () := by unfold inB; rw [if_pos (by omega)]
    have h3 : ¬ ((k + 1 : Nat) : Int) = 0 := by omega
    by_cases hz : dat d k = 0
    · have := n51 s e d hd k (by omega)
      rw [trimN, if_pos hz]
      simp only [STL, ↓reduceIte, Int.reduceBEq, Int.reduceEq, h0, hw, h2, and_self, encD_len, encD_at (show k < d.length by omega), hz, decide_true]
      exact this
    · rw [trimN, if_neg hz]
      simp only [STL, ↓reduceIte, Int.reduceBEq, Int.reduceEq, h0, hw, h2, and_self, encD_len, encD_at (show k < d.length by omega), hz, decide_true, hi, h3]
      simp [encD, List.map_take]
theorem s51 (s e : Bool) (d : List Int) (hd : d.length ≤ 1000) :
    Or (.call 98) [r0] [Blk.box [AV.t (T.bool s), o1], Blk.sl false 1 e (encD d)] = some [T.nilp, tb (s && decide (trim d ≠ [])), T.lst 1 e (encD (trim d))] := by
  have := n51 s e d hd d.length (Nat.le_refl _)
  have hne : decide (trim d ≠ []) = decide (trimN d d.length ≠ 0) := by
    refine decide_eq_decide.2 ?_
    have := trimN_le d d.length
    unfold trim
    constructor
    · intro h h'
      rw [h'] at h; exact h rfl
    · intro h h'
      have := congrArg List.length h'
      simp only [List.length_take, List.length_nil] at this
      omega
  refine orc_of ?_
  rw [e51, encD_len, hne]
  exact this
theorem wr32 (v : Int) : IntKind.u32.wrap v = v % 4294967296 := by simp [IntKind.wrap, IntKind.signed, IntKind.bits]
theorem wr64 (v : Int) : IntKind.u64.wrap v = v % 18446744073709551616 := by simp [IntKind.wrap, IntKind.signed, IntKind.bits]
/-- No noughts at the end. -/
def Can (d : List Int) : Prop := ∀ k, d.length = k + 1 → dat d k ≠ 0
theorem trimN_can {d : List Int} : ∀ k, k ≤ d.length → ∀ j, trimN d k = j + 1 → dat d j ≠ 0
  | 0, _, j, h => by cases h
  | k + 1, hk, j, h => by
    rw [trimN] at h
    split at h
    · exact trimN_can k (by omega) j h
    · rename_i hz
      simp only [Nat.add_right_cancel_iff] at h
      subst h; exact hz
theorem dat_take {d : List Int} {n k : Nat} (h : k < n) : dat (d.take n) k = dat d k := by
  simp only [dat, List.getD_eq_getElem?_getD, List.getElem?_take, if_pos h]
theorem trim_can (d : List Int) : Can (trim d) := by
  intro k hk
  have hle := trimN_le d d.length
  have hl : (trim d).length = trimN d d.length := by unfold trim; rw [List.length_take]; omega
  rw [hl] at hk
  have := trimN_can d.length (Nat.le_refl _) k hk
  unfold trim
  rw [dat_take (by omega)]; exact this
theorem trim_dg {d : List Int} (h : Dg d) : Dg (trim d) := fun a ha => h a (List.mem_of_mem_take ha)
theorem trim_len (d : List Int) : (trim d).length ≤ d.length := by unfold trim; rw [List.length_take]; omega
def num (s : Bool) (d : List Int) : Int := if s = true then -val d else val d
/-- Digits and sign of a number. -/
structure Rep (z : Int) (s : Bool) (d : List Int) : Prop where
  dg : Dg d
  can : Can d
  sg : s = true → d ≠ []
  z : num s d = z
/-- A wide number that is handed on. -/
def WI (z : Int) (x : T) : Prop := ∃ s e d, x = T.ptr [tb s, T.lst 1 e (encD d)] ∧ Rep z s d
theorem can_pos {d : List Int} (h : Dg d) (hc : Can d) (hn : d ≠ []) : 0 < val d := by
  have h0 := val_nonneg h
  rcases Int.lt_or_eq_of_le h0 with h1 | h1
  · exact h1
  · exfalso
    have : ∀ d : List Int, Dg d → val d = 0 → ∀ k, dat d k = 0 := by
      intro d
      induction d with
      | nil => intro _ _ k; simp [dat]
      | cons a d ih =>
        intro h hv k
        have ha := h a List.mem_cons_self
        have hd : Dg d := fun b hb => h b (List.mem_cons_of_mem _ hb)
        have := val_nonneg hd
        simp only [val] at hv
        cases k with
        | zero => simp only [dat, List.getD_cons_zero]; omega
        | succ k =>
          have := ih hd (by omega) k
          simpa only [dat, List.getD_cons_succ] using this
    have hl : d.length = (d.length - 1) + 1 := by have := List.length_pos_iff.2 hn; omega
    exact hc _ hl (this d h h1.symm _)
theorem s65 (s : Bool) (y : T) (n : Int) (hn : 0 ≤ n ∧ n < 18446744073709551616) : ∃ e d, Or (.call 61) [r0, AV.t (T.int .u64 n)] [Blk.box [AV.t (T.bool s), AV.t y]] = some [T.nilp, tb false, T.lst 1 e (encD d)] ∧ Dg d ∧ Can d ∧ val d = n ∧ d.length ≤ 2 := by
  have hd : Dg [n % 4294967296, n / 4294967296] := by
    intro a ha
    simp only [List.mem_cons, List.not_mem_nil, or_false] at ha
    rcases ha with rfl | rfl <;> omega
  have h51 := s51 false false [n % 4294967296, n / 4294967296] (by simp)
  refine ⟨false, trim [n % 4294967296, n / 4294967296], orc_of ?_, trim_dg hd, trim_can _, by rw [trim_val]; simp only [val]; omega, by have := trim_len [n % 4294967296, n / 4294967296]; simpa using this⟩
  rw [e65]
  have h1 : n.fdiv ((2 : Int) ^ 32) = n / 4294967296 := by
    rw [show ((2 : Int) ^ 32) = 4294967296 from by decide]
    rw [Int.fdiv_eq_ediv_of_nonneg _ (by omega)]
  have h2 : n / 4294967296 % 4294967296 = n / 4294967296 := by omega
  have he : encD [n % 4294967296, n / 4294967296] = [[T.int IntKind.u32 (n % 4294967296)], [T.int IntKind.u32 (n / 4294967296)]] := rfl
  rw [he] at h51
  simp only [Bool.false_and] at h51
  simp only [h1, wr32, h2]
  simp only [STL, ↓reduceIte, Int.reduceBEq, Int.reduceEq, h51]
theorem s48 (s : Bool) (y : T) (n : Int) (hn : -9223372036854775808 ≤ n ∧ n < 9223372036854775808) : ∃ s' e d, Or (.call 64) [r0, I n] [Blk.box [AV.t (T.bool s), AV.t y]] = some [T.nilp, tb s', T.lst 1 e (encD d)] ∧ Rep n s' d ∧ d.length ≤ 2 := by
  by_cases h0 : n < 0
  · have hw : IntKind.u64.wrap (0 - IntKind.u64.wrap n) = -n := by rw [wr64, wr64]; omega
    obtain ⟨e, d, k1, k2, k3, k4, k5⟩ := s65 s y (-n) (by omega)
    refine ⟨true, e, d, orc_of ?_, ⟨k2, k3, fun _ h => ?_, by simp only [num, if_true]; omega⟩, k5⟩
    · rw [e48]
      simp only [STL, ↓reduceIte, Int.reduceBEq, Int.reduceEq, h0, hw, k1]
    · subst h
      simp only [val] at k4; omega
  · have hw : IntKind.u64.wrap n = n := by rw [wr64]; omega
    obtain ⟨e, d, k1, k2, k3, k4, k5⟩ := s65 s y n (by omega)
    refine ⟨false, e, d, orc_of ?_, ⟨k2, k3, fun h => (by cases h), by simpa [num] using k4⟩, k5⟩
    rw [e48]
    simp only [STL, ↓reduceIte, Int.reduceBEq, Int.reduceEq, h0, hw, k1]
theorem s35 (n : Int) (hn : -9223372036854775808 ≤ n ∧ n < 9223372036854775808) : ∃ x, Or (.call 27) [I n] [] = some [x] ∧ WI n x := by
  obtain ⟨s', e, d, k1, k2, _⟩ := s48 false (T.emp true) n hn
  refine ⟨T.ptr [tb s', T.lst 1 e (encD d)], orc_of ?_, s', e, d, rfl, k2⟩
  rw [e35]
  simp only [STL, ↓reduceIte, Int.reduceBEq, Int.reduceEq, k1]
theorem s69 (s : Bool) (y : T) (s2 e2 : Bool) (d : List Int) (hd : d.length ≤ 1000) : Or (.call 63) [r0, AV.t (T.ptr [tb s2, T.lst 1 e2 (encD d)])] [Blk.box [AV.t (T.bool s), AV.t y]] = some [T.nilp, tb s2, T.lst 1 false (encD d)] := by
  refine orc_of ?_
  rw [e69]
  have : small 4 (encD d).length = some () := small_ok (by rw [encD_len]; omega)
  simp only [STL, ↓reduceIte, Int.reduceBEq, Int.reduceEq, this]
theorem s50 (s : Bool) (y : T) (s2 e2 : Bool) (d : List Int) (z : Int) (hd : d.length ≤ 1000) (hz : Rep z s2 d) : ∃ s', Or (.call 103) [r0, AV.t (T.ptr [tb s2, T.lst 1 e2 (encD d)])] [Blk.box [AV.t (T.bool s), AV.t y]] = some [T.nilp, tb s', T.lst 1 false (encD d)] ∧ Rep (-z) s' d := by
  refine ⟨!s2 && decide ((d.length : Int) > 0), orc_of ?_, hz.dg, hz.can, fun h => ?_, ?_⟩
  · rw [e50]
    simp only [STL, ↓reduceIte, Int.reduceBEq, Int.reduceEq, s69 s y s2 e2 d hd, encD_len, cand]
  · simp only [Bool.and_eq_true, decide_eq_true_eq] at h
    intro h'; subst h'
    simp at h
  · have := hz.z
    unfold num at this ⊢
    cases s2 with
    | true => simp at this ⊢; omega
    | false =>
      simp only [Bool.false_eq_true, if_false] at this
      by_cases hl : (d.length : Int) > 0
      · simp [hl]; omega
      · have : d = [] := List.length_eq_zero_iff.1 (by omega)
        subst this
        simp [val] at *
        omega
theorem w64 {v : Int} (h : 0 ≤ v ∧ v < 18446744073709551616) : IntKind.u64.wrap v = v := by rw [wr64]; omega
theorem encD_set {d : List Int} {i : Nat} (hi : i < d.length) (v : Int) : storeIn (i : Int).toNat 0 [T.int .u32 v] (encD d) = some (encD (d.set i v)) := by
  have h1 := encD_at hi
  simp only [storeIn, h1]
  simp [repl, encD, List.map_set]
abbrev lu (e : Bool) (d : List Int) : AV := AV.t (T.lst 1 e (encD d))
def sumL : List Int → List Int → Int → List Int
  | [], _, c => [c]
  | a :: x, [], c => ((c + a) % 4294967296) :: sumL x [] ((c + a) / 4294967296)
  | a :: x, b :: y, c => ((c + a + b) % 4294967296) :: sumL x y ((c + a + b) / 4294967296)
theorem Dg.tail {a : Int} {d : List Int} (h : Dg (a :: d)) : Dg d := fun b hb => h b (List.mem_cons_of_mem _ hb)
theorem sumL_val : ∀ {x y : List Int} {c : Int}, y.length ≤ x.length → val (sumL x y c) = c + val x + val y
  | [], [], c, _ => by simp [sumL, val]
  | [], b :: y, c, h => by simp at h
  | a :: x, [], c, h => by
    have := sumL_val (x := x) (y := []) (c := (c + a) / 4294967296) (by simp)
    simp only [sumL, val] at this ⊢
    rw [this]; omega
  | a :: x, b :: y, c, h => by
    have := sumL_val (x := x) (y := y) (c := (c + a + b) / 4294967296) (by simpa using h)
    simp only [sumL, val] at this ⊢
    rw [this]; omega
theorem sumL_dg : ∀ {x y : List Int} {c : Int}, Dg x → Dg y → 0 ≤ c ∧ c ≤ 1 → Dg (sumL x y c)
  | [], _, c, _, _, hc => by
    intro a ha
    simp only [sumL, List.mem_singleton] at ha
    subst ha; omega
  | a :: x, [], c, hx, hy, hc => by
    have h1 := hx a List.mem_cons_self
    have := sumL_dg (x := x) (y := []) (c := (c + a) / 4294967296) hx.tail hy (by omega)
    intro b hb
    simp only [sumL] at hb
    rcases List.mem_cons.1 hb with rfl | hb
    · omega
    · exact this b hb
  | a :: x, b :: y, c, hx, hy, hc => by
    have h1 := hx a List.mem_cons_self
    have h2 := hy b List.mem_cons_self
    have := sumL_dg (x := x) (y := y) (c := (c + a + b) / 4294967296) hx.tail hy.tail (by omega)
    intro u hu
    simp only [sumL] at hu
    rcases List.mem_cons.1 hu with rfl | hu
    · omega
    · exact this u hu
theorem sumL_len : ∀ {x y : List Int} {c : Int}, (sumL x y c).length = x.length + 1
  | [], _, c => rfl
  | a :: x, [], c => by simp [sumL, sumL_len]
  | a :: x, b :: y, c => by simp [sumL, sumL_len]
theorem set_mid (a : List Int) (b v : Int) (r : List Int) (i : Nat) (h : a.length = i) : (a ++ b :: r).set i v = a ++ v :: r := by
  subst h; simp
theorem dat_of {d : List Int} {i : Nat} {r : Int} {rest : List Int} (h : d.drop i = r :: rest) : dat d i = r := by
  obtain ⟨g1, _, _⟩ := at_drop h
  simp [dat, List.getD_eq_getElem?_getD, g1]
theorem fd32 {v : Int} : v.fdiv ((2 : Int) ^ 32) = v / 4294967296 := by
  rw [show ((2 : Int) ^ 32) = 4294967296 from by decide, Int.fdiv_eq_ediv_of_nonneg _ (by omega)]
theorem n66 (x y : List Int) (ex ey : Bool) (hx : Dg x) (hy : Dg y) (hl : y.length ≤ x.length) (hn : x.length ≤ 1000) : ∀ (xr : List Int) (i : Nat) (c : Int) (done : List Int), x.drop i = xr → done.length = i → i ≤ x.length → 0 ≤ c ∧ c ≤ 1 →
    Or K66n6 [lu ex x, lu ey y, o0, AV.t (T.int .u64 c), lu ex x, I (x.length : Int), I (i : Int)] [Blk.sl false 1 false (encD (done ++ List.replicate (xr.length + 1) 0))] = some [T.lst 1 false (encD (done ++ sumL xr (y.drop i) c))] := by
  intro xr
  induction xr with
  | nil =>
    intro i c done h hd hi hc
    have hle := at_end h
    obtain rfl : i = x.length := by omega
    have h1 : ¬ (x.length : Int) < (x.length : Int) := by omega
    have h2 : 0 ≤ (x.length : Int) ∧ (x.length : Int) < ((done ++ List.replicate (([] : List Int).length + 1) 0).length : Int) := by simp; omega
    have hs := encD_set (d := done ++ List.replicate (([] : List Int).length + 1) 0) (i := x.length) (by simp; omega) c
    rw [show done ++ List.replicate (([] : List Int).length + 1) 0 = done ++ 0 :: [] from rfl, set_mid done 0 c [] x.length hd] at hs
    have hw : IntKind.u32.wrap c = c := by rw [wr32]; omega
    refine orc_of ?_
    rw [e66n6]
    simp only [STL, ↓reduceIte, Int.reduceBEq, Int.reduceEq, h1, encD_len, h2, and_self, hw]
    rw [show done ++ List.replicate (([] : List Int).length + 1) 0 = done ++ 0 :: [] from rfl, hs]
    simp only [STL, ↓reduceIte, Int.reduceBEq, Int.reduceEq, sumL]
  | cons a xr ih =>
    intro i c done h hd hi hc
    obtain ⟨g1, g2, g3⟩ := at_drop h
    have h1 : (i : Int) < (x.length : Int) := by omega
    have h0 : 0 ≤ (i : Int) := by omega
    have ha := hx a (List.mem_of_getElem? g1)
    have hda := dat_of h
    have hcl : (i : Int) < ((done ++ List.replicate ((a :: xr).length + 1) 0).length : Int) := by simp; omega
    have hset : ∀ v, storeIn (i : Int).toNat 0 [T.int .u32 v] (encD (done ++ List.replicate ((a :: xr).length + 1) 0)) = some (encD ((done ++ [v]) ++ List.replicate (xr.length + 1) 0)) := fun v => by
      rw [encD_set (by simp; omega), show done ++ List.replicate ((a :: xr).length + 1) 0 = done ++ 0 :: List.replicate (xr.length + 1) 0 from rfl, set_mid done 0 v _ i hd]
      simp
    refine orc_of ?_
    rw [e66n6]
    cases hyr : y.drop i with
    | nil =>
      have hyl := at_end hyr
      have h2 : ¬ (i : Int) < (y.length : Int) := by omega
      have hw1 : IntKind.u64.wrap a = a := w64 (by omega)
      have hw2 : IntKind.u64.wrap (c + a) = c + a := w64 (by omega)
      have hy1 : y.drop (i + 1) = [] := by simp; omega
      have := ih (i + 1) ((c + a) / 4294967296) (done ++ [(c + a) % 4294967296]) g3 (by simp [hd]) (by omega) (by omega)
      rw [hy1, show done ++ [(c + a) % 4294967296] ++ sumL xr [] ((c + a) / 4294967296) = done ++ sumL (a :: xr) [] c from by simp [sumL]] at this
      simp only [STL, ↓reduceIte, Int.reduceBEq, Int.reduceEq, h1, h0, and_self, encD_len, encD_at g2, hda, h2, hw1, hw2, hcl, wr32, hset, fd32, next i (by omega)]
      exact this
    | cons b yr =>
      obtain ⟨k1, k2, k3⟩ := at_drop hyr
      have hb := hy b (List.mem_of_getElem? k1)
      have hdb := dat_of hyr
      have h2 : (i : Int) < (y.length : Int) := by omega
      have hw1 : IntKind.u64.wrap a = a := w64 (by omega)
      have hw2 : IntKind.u64.wrap (c + a) = c + a := w64 (by omega)
      have hw3 : IntKind.u64.wrap b = b := w64 (by omega)
      have hw4 : IntKind.u64.wrap (c + a + b) = c + a + b := w64 (by omega)
      have := ih (i + 1) ((c + a + b) / 4294967296) (done ++ [(c + a + b) % 4294967296]) g3 (by simp [hd]) (by omega) (by omega)
      rw [k3, show done ++ [(c + a + b) % 4294967296] ++ sumL xr yr ((c + a + b) / 4294967296) = done ++ sumL (a :: xr) (b :: yr) c from by simp [sumL]] at this
      simp only [STL, ↓reduceIte, Int.reduceBEq, Int.reduceEq, h1, h0, and_self, encD_len, encD_at g2, encD_at k2, hda, hdb, h2, hw1, hw2, hw3, hw4, hcl, wr32, hset, fd32, next i (by omega)]
      exact this
/-- The sum of two lists of digits. -/
theorem s66 (x y : List Int) (ex ey : Bool) (hx : Dg x) (hy : Dg y) (hnx : x.length ≤ 900) (hny : y.length ≤ 900) : ∃ d, Or (.call 105) [lu ex x, lu ey y] [] = some [T.lst 1 false (encD d)] ∧ Dg d ∧ val d = val x + val y ∧ d.length ≤ max x.length y.length + 1 := by
  by_cases hl : (x.length : Int) < (y.length : Int)
  · have h1 := n66 y x ey ex hy hx (by omega) (by omega) y 0 0 [] rfl rfl (by omega) (by omega)
    refine ⟨sumL y x 0, orc_of ?_, sumL_dg hy hx (by omega), by rw [sumL_val (by omega)]; omega, by rw [sumL_len]; omega⟩
    have hw : IntKind.i64.wrap ((y.length : Int) + 1) = ((y.length + 1 : Nat) : Int) := next y.length (by omega)
    have hmk : mkOk ((y.length + 1 : Nat) : Int) ((y.length + 1 : Nat) : Int) = some () := by unfold mkOk lim; rw [if_pos (by omega)]
    have he : encD ([] ++ List.replicate (y.length + 1) 0) = List.replicate (y.length + 1) [T.int IntKind.u32 0] := by simp [encD]
    rw [he] at h1
    rw [e66]
    simp only [STL, ↓reduceIte, Int.reduceBEq, Int.reduceEq, encD_len, hl, hw, hmk, Int.toNat_natCast]
    exact h1
  · have h1 := n66 x y ex ey hx hy (by omega) (by omega) x 0 0 [] rfl rfl (by omega) (by omega)
    refine ⟨sumL x y 0, orc_of ?_, sumL_dg hx hy (by omega), by rw [sumL_val (by omega)]; omega, by rw [sumL_len]; omega⟩
    have hw : IntKind.i64.wrap ((x.length : Int) + 1) = ((x.length + 1 : Nat) : Int) := next x.length (by omega)
    have hmk : mkOk ((x.length + 1 : Nat) : Int) ((x.length + 1 : Nat) : Int) = some () := by unfold mkOk lim; rw [if_pos (by omega)]
    have he : encD ([] ++ List.replicate (x.length + 1) 0) = List.replicate (x.length + 1) [T.int IntKind.u32 0] := by simp [encD]
    rw [he] at h1
    rw [e66]
    simp only [STL, ↓reduceIte, Int.reduceBEq, Int.reduceEq, encD_len, hl, hw, hmk, Int.toNat_natCast]
    exact h1
theorem pow_pos' (n : Nat) : 0 < (4294967296 : Int) ^ n := Int.pow_pos (by decide)
theorem val_lt : ∀ {d : List Int}, Dg d → val d < 4294967296 ^ d.length
  | [], _ => by simp [val]
  | a :: d, h => by
    have h1 := h a List.mem_cons_self
    have h2 := val_lt h.tail
    simp only [val, List.length_cons, Int.pow_succ]
    omega
theorem Dg.take {d : List Int} (h : Dg d) (n : Nat) : Dg (d.take n) := fun a ha => h a (List.mem_of_mem_take ha)
theorem val_take {d : List Int} {k : Nat} (hk : k < d.length) : val (d.take (k + 1)) = val (d.take k) + 4294967296 ^ k * dat d k := by
  have : d.take (k + 1) = d.take k ++ [dat d k] := by
    rw [List.take_add_one, List.getElem?_eq_getElem hk]
    simp [dat, List.getD_eq_getElem?_getD, hk]
  rw [this, val_append, List.length_take, Nat.min_eq_left (by omega)]
  simp [val]
theorem can_ge {d : List Int} {k : Nat} (h : Dg d) (hc : Can d) (hl : d.length = k + 1) : 4294967296 ^ k ≤ val d := by
  have h1 := val_take (d := d) (k := k) (by omega)
  rw [← hl, List.take_length] at h1
  have h2 := hc k hl
  have h3 := val_nonneg (h.take k)
  have h4 : 0 ≤ dat d k := by
    have hk : k < d.length := by omega
    have : dat d k ∈ d := by
      simp only [dat, List.getD_eq_getElem?_getD, List.getElem?_eq_getElem hk, Option.getD_some]
      exact List.getElem_mem hk
    exact (h _ this).1
  have h5 : (4294967296 : Int) ^ k * 1 ≤ 4294967296 ^ k * dat d k := Int.mul_le_mul_of_nonneg_left (by omega) (Int.le_of_lt (pow_pos' k))
  omega
def cmp3 (u v : Int) : Int := if u < v then -1 else if u = v then 0 else 1
theorem cmp3_add (u v w : Int) : cmp3 (u + w) (v + w) = cmp3 u v := by
  have h1 : u + w < v + w ↔ u < v := by omega
  have h2 : u + w = v + w ↔ u = v := by omega
  unfold cmp3
  simp only [h1, h2]
theorem dat_lt {a b : List Int} {k : Nat} (ha : Dg a) (hb : Dg b) (hka : k < a.length) (hkb : k < b.length) (h : dat a k < dat b k) : val (a.take (k + 1)) < val (b.take (k + 1)) := by
  rw [val_take hka, val_take hkb]
  have h1 := val_lt (ha.take k)
  rw [List.length_take, Nat.min_eq_left (by omega)] at h1
  have h2 := val_nonneg (hb.take k)
  have h3 : (4294967296 : Int) ^ k * (dat a k + 1) ≤ 4294967296 ^ k * dat b k := Int.mul_le_mul_of_nonneg_left (by omega) (Int.le_of_lt (pow_pos' k))
  rw [Int.mul_add, Int.mul_one] at h3
  omega
theorem n67 (a b : List Int) (sa ea sb eb : Bool) (ha : Dg a) (hb : Dg b) (hl : a.length = b.length) (hn : a.length ≤ 1000) : ∀ (k : Nat) (z : Int), z = (k : Int) - 1 → k ≤ a.length →
    Or K67n6 [AV.t (T.ptr [tb sa, T.lst 1 ea (encD a)]), AV.t (T.ptr [tb sb, T.lst 1 eb (encD b)]), I z] [] = some [ti (cmp3 (val (a.take k)) (val (b.take k)))]
  | 0, z, hz, hk => by
    refine orc_of ?_
    rw [e67n6]
    have h1 : ¬ z ≥ 0 := by omega
    simp only [STL, ↓reduceIte, Int.reduceBEq, Int.reduceEq, h1]
    simp [cmp3]
  | k + 1, z, hz, hk => by
    obtain rfl : z = (k : Int) := by omega
    have h1 : (k : Int) ≥ 0 := by omega
    have h2 : 0 ≤ (k : Int) ∧ (k : Int) < (a.length : Int) := by omega
    have h3 : (k : Int) < (b.length : Int) := by omega
    have hw : IntKind.i64.wrap ((k : Int) - 1) = (k : Int) - 1 := wr (by omega)
    refine orc_of ?_
    rw [e67n6]
    by_cases he : dat a k = dat b k
    · have := n67 a b sa ea sb eb ha hb hl hn k ((k : Int) - 1) rfl (by omega)
      have hv : cmp3 (val (a.take (k + 1))) (val (b.take (k + 1))) = cmp3 (val (a.take k)) (val (b.take k)) := by
        rw [val_take (by omega), val_take (by omega), he, cmp3_add]
      rw [hv]
      simp only [STL, ↓reduceIte, Int.reduceBEq, Int.reduceEq, h1, h2, h3, and_self, encD_len, encD_at (show k < a.length by omega), encD_at (show k < b.length by omega), he, hw]
      exact this
    · by_cases hlt : dat a k < dat b k
      · have := dat_lt ha hb (show k < a.length by omega) (by omega) hlt
        simp only [STL, ↓reduceIte, Int.reduceBEq, Int.reduceEq, h1, h2, h3, and_self, encD_len, encD_at (show k < a.length by omega), encD_at (show k < b.length by omega), he, hlt]
        unfold cmp3
        rw [if_pos this]
      · have := dat_lt hb ha (show k < b.length by omega) (by omega) (show dat b k < dat a k by omega)
        simp only [STL, ↓reduceIte, Int.reduceBEq, Int.reduceEq, h1, h2, h3, and_self, encD_len, encD_at (show k < a.length by omega), encD_at (show k < b.length by omega), he, hlt]
        unfold cmp3
        rw [if_neg (by omega), if_neg (by omega)]
theorem len_lt {a b : List Int} (ha : Dg a) (hb : Dg b) (hc : Can b) (h : a.length < b.length) : val a < val b := by
  have h1 := val_lt ha
  have h2 := can_ge (k := b.length - 1) hb hc (by omega)
  have h3 : (4294967296 : Int) ^ a.length ≤ 4294967296 ^ (b.length - 1) := by
    have : b.length - 1 = a.length + (b.length - 1 - a.length) := by omega
    rw [this, Int.pow_add]
    have h4 : (4294967296 : Int) ^ a.length * 1 ≤ 4294967296 ^ a.length * 4294967296 ^ (b.length - 1 - a.length) := Int.mul_le_mul_of_nonneg_left (by have := pow_pos' (b.length - 1 - a.length); omega) (Int.le_of_lt (pow_pos' _))
    omega
  omega
/-- CmpAbs. -/
theorem s67 (a b : List Int) (sa ea sb eb : Bool) (ha : Dg a) (hb : Dg b) (ca : Can a) (cb : Can b) (hna : a.length ≤ 1000) (hnb : b.length ≤ 1000) :
    Or (.call 65) [AV.t (T.ptr [tb sa, T.lst 1 ea (encD a)]), AV.t (T.ptr [tb sb, T.lst 1 eb (encD b)])] [] = some [ti (cmp3 (val a) (val b))] := by
  refine orc_of ?_
  rw [e67]
  by_cases hl : (a.length : Int) = (b.length : Int)
  · have := n67 a b sa ea sb eb ha hb (by omega) hna a.length _ rfl (Nat.le_refl _)
    rw [List.take_length, show b.take a.length = b from List.take_of_length_le (by omega)] at this
    have hw : IntKind.i64.wrap ((a.length : Int) - 1) = (a.length : Int) - 1 := wr (by omega)
    simp only [encD_len, hw]
    simp only [STL, ↓reduceIte, Int.reduceBEq, Int.reduceEq, hl]
    rw [hl] at this
    exact this
  · by_cases hlt : (a.length : Int) < (b.length : Int)
    · have := len_lt ha hb cb (by omega)
      simp only [STL, ↓reduceIte, Int.reduceBEq, Int.reduceEq, encD_len, hl, hlt]
      unfold cmp3
      rw [if_pos this]
    · have := len_lt hb ha ca (by omega)
      simp only [STL, ↓reduceIte, Int.reduceBEq, Int.reduceEq, encD_len, hl, hlt]
      unfold cmp3
      rw [if_neg (by omega), if_neg (by omega)]
def bor (v : Int) : Int := if v < 0 then 1 else 0
def lessL : List Int → List Int → Int → List Int
  | [], _, _ => []
  | a :: x, [], c => ((a - c) % 4294967296) :: lessL x [] (bor (a - c))
  | a :: x, b :: y, c => ((a - c - b) % 4294967296) :: lessL x y (bor (a - c - b))
theorem lessL_val : ∀ {x y : List Int} {c : Int}, Dg x → Dg y → y.length ≤ x.length → 0 ≤ c ∧ c ≤ 1 → val y + c ≤ val x → val (lessL x y c) = val x - val y - c
  | [], [], c, _, _, _, hc, h => by simp [lessL, val] at h ⊢; omega
  | [], b :: y, c, _, _, h, _, _ => by simp at h
  | a :: x, [], c, hx, hy, hl, hc, h => by
    have h1 := hx a List.mem_cons_self
    simp only [val] at h
    have := lessL_val (x := x) (y := []) (c := bor (a - c)) hx.tail hy (by simp) (by unfold bor; split <;> omega) (by simp only [val]; unfold bor; split <;> omega)
    simp only [lessL, val] at this ⊢
    rw [this]
    unfold bor
    split <;> omega
  | a :: x, b :: y, c, hx, hy, hl, hc, h => by
    have h1 := hx a List.mem_cons_self
    have h2 := hy b List.mem_cons_self
    simp only [val] at h
    have := lessL_val (x := x) (y := y) (c := bor (a - c - b)) hx.tail hy.tail (by simpa using hl) (by unfold bor; split <;> omega) (by unfold bor; split <;> omega)
    simp only [lessL, val] at this ⊢
    rw [this]
    unfold bor
    split <;> omega
theorem lessL_dg : ∀ {x y : List Int} {c : Int}, Dg (lessL x y c)
  | [], _, c => by intro a ha; simp [lessL] at ha
  | a :: x, [], c => by
    intro u hu
    simp only [lessL] at hu
    rcases List.mem_cons.1 hu with rfl | hu
    · omega
    · exact lessL_dg u hu
  | a :: x, b :: y, c => by
    intro u hu
    simp only [lessL] at hu
    rcases List.mem_cons.1 hu with rfl | hu
    · omega
    · exact lessL_dg u hu
theorem lessL_len : ∀ {x y : List Int} {c : Int}, (lessL x y c).length = x.length
  | [], _, c => rfl
  | a :: x, [], c => by simp [lessL, lessL_len]
  | a :: x, b :: y, c => by simp [lessL, lessL_len]
theorem fd63 {v : Int} (h : -1000000000000 ≤ v ∧ v ≤ 1000000000000) : (IntKind.u64.wrap v).fdiv ((2 : Int) ^ 63) = bor v := by
  rw [show ((2 : Int) ^ 63) = 9223372036854775808 from by decide, Int.fdiv_eq_ediv_of_nonneg _ (by omega), wr64]
  unfold bor
  split <;> omega
theorem wr3264 (v : Int) : IntKind.u32.wrap (IntKind.u64.wrap v) = v % 4294967296 := by rw [wr32, wr64]; omega
theorem ww64 (v b : Int) : IntKind.u64.wrap (IntKind.u64.wrap v - b) = IntKind.u64.wrap (v - b) := by simp only [wr64]; omega
theorem n68 (x y : List Int) (ex ey : Bool) (hx : Dg x) (hy : Dg y) (hn : x.length ≤ 1000) : ∀ (xr : List Int) (i : Nat) (c : Int) (done : List Int), x.drop i = xr → done.length = i → 0 ≤ c ∧ c ≤ 1 →
    Or K68n4 [lu ey y, o0, AV.t (T.int .u64 c), lu ex x, I (x.length : Int), I (i : Int)] [Blk.sl false 1 false (encD (done ++ List.replicate xr.length 0))] = some [T.lst 1 false (encD (done ++ lessL xr (y.drop i) c))] := by
  intro xr
  induction xr with
  | nil =>
    intro i c done h hd hc
    have hle := at_end h
    have h1 : ¬ (i : Int) < (x.length : Int) := by omega
    refine orc_of ?_
    rw [e68n4]
    simp only [STL, ↓reduceIte, Int.reduceBEq, Int.reduceEq, h1]
    simp [lessL]
  | cons a xr ih =>
    intro i c done h hd hc
    obtain ⟨g1, g2, g3⟩ := at_drop h
    have h1 : (i : Int) < (x.length : Int) := by omega
    have h0 : 0 ≤ (i : Int) := by omega
    have ha := hx a (List.mem_of_getElem? g1)
    have hda := dat_of h
    have hcl : (i : Int) < ((done ++ List.replicate (a :: xr).length 0).length : Int) := by simp; omega
    have hset : ∀ v, storeIn (i : Int).toNat 0 [T.int .u32 v] (encD (done ++ List.replicate (a :: xr).length 0)) = some (encD ((done ++ [v]) ++ List.replicate xr.length 0)) := fun v => by
      rw [encD_set (by simp; omega), show done ++ List.replicate (a :: xr).length 0 = done ++ 0 :: List.replicate xr.length 0 from rfl, set_mid done 0 v _ i hd]
      simp
    have hw1 : IntKind.u64.wrap a = a := w64 (by omega)
    refine orc_of ?_
    rw [e68n4]
    cases hyr : y.drop i with
    | nil =>
      have hyl := at_end hyr
      have h2 : ¬ (i : Int) < (y.length : Int) := by omega
      have hy1 : y.drop (i + 1) = [] := by simp; omega
      have := ih (i + 1) (bor (a - c)) (done ++ [(a - c) % 4294967296]) g3 (by simp [hd]) (by unfold bor; split <;> omega)
      rw [hy1, show done ++ [(a - c) % 4294967296] ++ lessL xr [] (bor (a - c)) = done ++ lessL (a :: xr) [] c from by simp [lessL]] at this
      simp only [STL, ↓reduceIte, Int.reduceBEq, Int.reduceEq, h1, h0, and_self, encD_len, encD_at g2, hda, h2, hw1, hcl, wr3264, hset, fd63 (v := a - c) (by omega), next i (by omega)]
      exact this
    | cons b yr =>
      obtain ⟨k1, k2, k3⟩ := at_drop hyr
      have hb := hy b (List.mem_of_getElem? k1)
      have hdb := dat_of hyr
      have h2 : (i : Int) < (y.length : Int) := by omega
      have hw3 : IntKind.u64.wrap b = b := w64 (by omega)
      have := ih (i + 1) (bor (a - c - b)) (done ++ [(a - c - b) % 4294967296]) g3 (by simp [hd]) (by unfold bor; split <;> omega)
      rw [k3, show done ++ [(a - c - b) % 4294967296] ++ lessL xr yr (bor (a - c - b)) = done ++ lessL (a :: xr) (b :: yr) c from by simp [lessL]] at this
      simp only [STL, ↓reduceIte, Int.reduceBEq, Int.reduceEq, h1, h0, and_self, encD_len, encD_at g2, encD_at k2, hda, hdb, h2, hw1, hw3, ww64, hcl, wr3264, hset, fd63 (v := a - c - b) (by omega), next i (by omega)]
      exact this
/-- The difference of two lists of digits, of which the second is no more. -/
theorem s68 (x y : List Int) (ex ey : Bool) (hx : Dg x) (hy : Dg y) (hl : y.length ≤ x.length) (hv : val y ≤ val x) (hn : x.length ≤ 900) : ∃ d, Or (.call 106) [lu ex x, lu ey y] [] = some [T.lst 1 false (encD d)] ∧ Dg d ∧ val d = val x - val y ∧ d.length = x.length := by
  have h1 := n68 x y ex ey hx hy (by omega) x 0 0 [] rfl rfl (by omega)
  refine ⟨lessL x y 0, orc_of ?_, lessL_dg, by rw [lessL_val hx hy hl (by omega) (by omega)]; omega, lessL_len⟩
  have hmk : mkOk (x.length : Int) (x.length : Int) = some () := by unfold mkOk lim; rw [if_pos (by omega)]
  have he : encD ([] ++ List.replicate x.length 0) = List.replicate x.length [T.int IntKind.u32 0] := by simp [encD]
  rw [he] at h1
  rw [e68]
  simp only [STL, ↓reduceIte, Int.reduceBEq, Int.reduceEq, encD_len, hmk, Int.toNat_natCast]
  exact h1
open Go Go.Aev Go.Aev.Gen

theorem trim_nil {d : List Int} (h : trim d = []) : val d = 0 := by rw [← trim_val, h]; rfl
theorem trim_rep {s : Bool} {d : List Int} {z : Int} (hd : Dg d) (hz : num s d = z) : Rep z (s && decide (trim d ≠ [])) (trim d) := by
  refine ⟨trim_dg hd, trim_can d, fun h => ?_, ?_⟩
  · simp only [Bool.and_eq_true, decide_eq_true_eq] at h
    exact h.2
  · unfold num at hz ⊢
    rw [trim_val]
    by_cases ht : trim d = []
    · have := trim_nil ht
      simp only [ht, ne_eq, not_true_eq_false, decide_false, Bool.and_false, Bool.false_eq_true, if_false]
      split at hz <;> omega
    · simp only [ne_eq, ht, not_false_eq_true, decide_true, Bool.and_true]
      exact hz
/-- What a method answers that sets its receiver. -/
def Sets (z : Int) (n : Nat) (r : Option (List T)) : Prop := ∃ s e d, r = some [T.nilp, tb s, T.lst 1 e (encD d)] ∧ Rep z s d ∧ d.length ≤ n
theorem tt : (true == true) = true := rfl
theorem tf : (true == false) = false := rfl
theorem ft : (false == true) = false := rfl
theorem ff : (false == false) = true := rfl
theorem s49 (s : Bool) (y : T) (s2 e2 s3 e3 : Bool) (a b : List Int) (u v : Int) (ha : Rep u s2 a) (hb : Rep v s3 b) (la : a.length ≤ 400) (lb : b.length ≤ 400) :
    Sets (u + v) (max a.length b.length + 1) (Or (.call 75) [r0, AV.t (T.ptr [tb s2, T.lst 1 e2 (encD a)]), AV.t (T.ptr [tb s3, T.lst 1 e3 (encD b)])] [Blk.box [AV.t (T.bool s), AV.t y]]) := by
  have hu := ha.z
  have hv := hb.z
  by_cases hs : s2 = s3
  · subst hs
    obtain ⟨d, h66, k1, k2, k3⟩ := s66 a b e2 e3 ha.dg hb.dg (by omega) (by omega)
    have h51 := s51 s2 false d (by omega)
    refine ⟨s2 && decide (trim d ≠ []), false, trim d, orc_of ?_, trim_rep (s := s2) k1 ?_, by have := trim_len d; omega⟩
    · rw [e49]
      have hq : (s2 == s2) = true := by cases s2 <;> rfl
      simp only [STL, ↓reduceIte, Int.reduceBEq, Int.reduceEq, hq, h66, h51]
    · unfold num at hu hv ⊢
      split at hu <;> split at hv <;> (try split) <;> first | omega | simp_all
  · have hq : (s2 == s3) = false := by cases s2 <;> cases s3 <;> simp_all
    have h67 := s67 a b s2 e2 s3 e3 ha.dg hb.dg ha.can hb.can (by omega) (by omega)
    by_cases hc : val b ≤ val a
    · have hl : b.length ≤ a.length := by
        rcases Nat.lt_or_ge a.length b.length with h | h
        · have := len_lt ha.dg hb.dg hb.can h; omega
        · exact h
      obtain ⟨d, h68, k1, k2, k3⟩ := s68 a b e2 e3 ha.dg hb.dg hl hc (by omega)
      have h51 := s51 s2 false d (by omega)
      have hge : cmp3 (val a) (val b) ≥ 0 := by unfold cmp3; split <;> (try split) <;> omega
      refine ⟨s2 && decide (trim d ≠ []), false, trim d, orc_of ?_, trim_rep (s := s2) k1 ?_, by have := trim_len d; omega⟩
      · rw [e49]
        simp only [STL, ↓reduceIte, Int.reduceBEq, Int.reduceEq, hq, h67, hge, h68, h51]
      · unfold num at hu hv ⊢
        cases s2 <;> cases s3 <;> simp at * <;> omega
    · have hl : a.length ≤ b.length := by
        rcases Nat.lt_or_ge b.length a.length with h | h
        · have := len_lt hb.dg ha.dg ha.can h; omega
        · exact h
      obtain ⟨d, h68, k1, k2, k3⟩ := s68 b a e3 e2 hb.dg ha.dg hl (by omega) (by omega)
      have h51 := s51 s3 false d (by omega)
      have hge : ¬ cmp3 (val a) (val b) ≥ 0 := by unfold cmp3; rw [if_pos (by omega)]; omega
      refine ⟨s3 && decide (trim d ≠ []), false, trim d, orc_of ?_, trim_rep (s := s3) k1 ?_, by have := trim_len d; omega⟩
      · rw [e49]
        simp only [STL, ↓reduceIte, Int.reduceBEq, Int.reduceEq, hq, h67, hge, h68, h51]
      · unfold num at hu hv ⊢
        cases s2 <;> cases s3 <;> simp at * <;> omega
theorem s49z (s2 e2 s3 e3 : Bool) (a b : List Int) (u v : Int) (ha : Rep u s2 a) (hb : Rep v s3 b) (la : a.length ≤ 400) (lb : b.length ≤ 400) :
    Sets (u + v) (max a.length b.length + 1) (Or (.call 75) [r0, r0, AV.t (T.ptr [tb s3, T.lst 1 e3 (encD b)])] [Blk.box [AV.t (T.bool s2), AV.t (T.lst 1 e2 (encD a))]]) := by
  have hu := ha.z
  have hv := hb.z
  by_cases hs : s2 = s3
  · subst hs
    obtain ⟨d, h66, k1, k2, k3⟩ := s66 a b e2 e3 ha.dg hb.dg (by omega) (by omega)
    have h51 := s51 s2 false d (by omega)
    refine ⟨s2 && decide (trim d ≠ []), false, trim d, orc_of ?_, trim_rep (s := s2) k1 ?_, by have := trim_len d; omega⟩
    · rw [e49z]
      have hq : (s2 == s2) = true := by cases s2 <;> rfl
      simp only [STL, ↓reduceIte, Int.reduceBEq, Int.reduceEq, hq, h66, h51]
    · unfold num at hu hv ⊢
      split at hu <;> split at hv <;> (try split) <;> first | omega | simp_all
  · have hq : (s2 == s3) = false := by cases s2 <;> cases s3 <;> simp_all
    have h67 := s67 a b s2 e2 s3 e3 ha.dg hb.dg ha.can hb.can (by omega) (by omega)
    by_cases hc : val b ≤ val a
    · have hl : b.length ≤ a.length := by
        rcases Nat.lt_or_ge a.length b.length with h | h
        · have := len_lt ha.dg hb.dg hb.can h; omega
        · exact h
      obtain ⟨d, h68, k1, k2, k3⟩ := s68 a b e2 e3 ha.dg hb.dg hl hc (by omega)
      have h51 := s51 s2 false d (by omega)
      have hge : cmp3 (val a) (val b) ≥ 0 := by unfold cmp3; split <;> (try split) <;> omega
      refine ⟨s2 && decide (trim d ≠ []), false, trim d, orc_of ?_, trim_rep (s := s2) k1 ?_, by have := trim_len d; omega⟩
      · rw [e49z]
        simp only [STL, ↓reduceIte, Int.reduceBEq, Int.reduceEq, hq, h67, hge, h68, h51]
      · unfold num at hu hv ⊢
        cases s2 <;> cases s3 <;> simp at * <;> omega
    · have hl : a.length ≤ b.length := by
        rcases Nat.lt_or_ge b.length a.length with h | h
        · have := len_lt hb.dg ha.dg ha.can h; omega
        · exact h
      obtain ⟨d, h68, k1, k2, k3⟩ := s68 b a e3 e2 hb.dg ha.dg hl (by omega) (by omega)
      have h51 := s51 s3 false d (by omega)
      have hge : ¬ cmp3 (val a) (val b) ≥ 0 := by unfold cmp3; rw [if_pos (by omega)]; omega
      refine ⟨s3 && decide (trim d ≠ []), false, trim d, orc_of ?_, trim_rep (s := s3) k1 ?_, by have := trim_len d; omega⟩
      · rw [e49z]
        simp only [STL, ↓reduceIte, Int.reduceBEq, Int.reduceEq, hq, h67, hge, h68, h51]
      · unfold num at hu hv ⊢
        cases s2 <;> cases s3 <;> simp at * <;> omega
theorem s36 (s : Bool) (y : T) (s2 e2 s3 e3 : Bool) (a b : List Int) (u v : Int) (ha : Rep u s2 a) (hb : Rep v s3 b) (la : a.length ≤ 400) (lb : b.length ≤ 400) :
    Sets (u - v) (max a.length b.length + 1) (Or (.call 120) [r0, AV.t (T.ptr [tb s2, T.lst 1 e2 (encD a)]), AV.t (T.ptr [tb s3, T.lst 1 e3 (encD b)])] [Blk.box [AV.t (T.bool s), AV.t y]]) := by
  obtain ⟨s', h50, hn⟩ := s50 false (T.emp true) s3 e3 b v (by omega) hb
  obtain ⟨sr, er, d, k1, k2, k3⟩ := s49 s y s2 e2 s' false a b u (-v) ha hn la lb
  refine ⟨sr, er, d, orc_of ?_, by rw [Int.sub_eq_add_neg]; exact k2, k3⟩
  rw [e36]
  simp only [STL, ↓reduceIte, Int.reduceBEq, Int.reduceEq, h50, k1]
theorem s36z (s2 e2 s3 e3 : Bool) (a b : List Int) (u v : Int) (ha : Rep u s2 a) (hb : Rep v s3 b) (la : a.length ≤ 400) (lb : b.length ≤ 400) :
    Sets (u - v) (max a.length b.length + 1) (Or (.call 120) [r0, r0, AV.t (T.ptr [tb s3, T.lst 1 e3 (encD b)])] [Blk.box [AV.t (T.bool s2), AV.t (T.lst 1 e2 (encD a))]]) := by
  obtain ⟨s', h50, hn⟩ := s50 false (T.emp true) s3 e3 b v (by omega) hb
  obtain ⟨sr, er, d, k1, k2, k3⟩ := s49z s2 e2 s' false a b u (-v) ha hn la lb
  refine ⟨sr, er, d, orc_of ?_, by rw [Int.sub_eq_add_neg]; exact k2, k3⟩
  rw [e36z]
  simp only [STL, ↓reduceIte, Int.reduceBEq, Int.reduceEq, h50, k1]
open Go Go.Aev Go.Aev.Gen

/-- One row of a product: a times y, added to what stands there; the carry is put behind. -/
def mulRow (a : Int) : List Int → List Int → Int → List Int
  | [], [], _ => []
  | [], _ :: r, c => c :: r
  | _ :: _, [], _ => []
  | b :: y, o :: r, c => ((c + a * b + o) % 4294967296) :: mulRow a y r ((c + a * b + o) / 4294967296)
theorem mul_b {a b : Int} (ha : 0 ≤ a ∧ a < 4294967296) (hb : 0 ≤ b ∧ b < 4294967296) : 0 ≤ a * b ∧ a * b ≤ 18446744065119617025 := by
  have h1 : 0 ≤ a * b := Int.mul_nonneg ha.1 hb.1
  have h2 : a * b ≤ 4294967295 * 4294967295 := Int.mul_le_mul (by omega) (by omega) hb.1 (by omega)
  omega
theorem mulRow_val {a : Int} (ha : 0 ≤ a ∧ a < 4294967296) : ∀ {y o r : List Int} {c : Int}, y.length = o.length → val (mulRow a y (o ++ 0 :: r) c) = c + a * val y + val (o ++ 0 :: r)
  | [], [], r, c, _ => by simp [mulRow, val]
  | [], o :: os, r, c, h => by simp at h
  | b :: y, [], r, c, h => by simp at h
  | b :: y, o :: os, r, c, h => by
    have := mulRow_val ha (y := y) (o := os) (r := r) (c := (c + a * b + o) / 4294967296) (by simpa using h)
    simp only [List.cons_append, mulRow, val] at this ⊢
    have e1 : a * (b + 4294967296 * val y) = a * b + 4294967296 * (a * val y) := by rw [Int.mul_add, Int.mul_left_comm]
    rw [this, e1]
    omega
theorem mulRow_len {a : Int} : ∀ {y o : List Int} {c : Int}, (mulRow a y o c).length = o.length
  | [], [], _ => rfl
  | [], _ :: r, c => rfl
  | _ :: _, [], _ => rfl
  | b :: y, o :: r, c => by simp [mulRow, mulRow_len]
theorem mulRow_dg {a : Int} (ha : 0 ≤ a ∧ a < 4294967296) : ∀ {y o : List Int} {c : Int}, Dg y → Dg o → 0 ≤ c ∧ c < 4294967296 → Dg (mulRow a y o c)
  | [], [], _, _, _, _ => by intro u hu; simp [mulRow] at hu
  | [], _ :: r, c, _, ho, hc => by
    intro u hu
    simp only [mulRow] at hu
    rcases List.mem_cons.1 hu with rfl | hu
    · exact hc
    · exact ho u (List.mem_cons_of_mem _ hu)
  | _ :: _, [], _, _, _, _ => by intro u hu; simp [mulRow] at hu
  | b :: y, o :: r, c, hy, ho, hc => by
    have h1 := ho o List.mem_cons_self
    have h2 := mul_b ha (hy b List.mem_cons_self)
    have := mulRow_dg ha (y := y) (o := r) (c := (c + a * b + o) / 4294967296) hy.tail ho.tail (by omega)
    intro u hu
    simp only [mulRow] at hu
    rcases List.mem_cons.1 hu with rfl | hu
    · omega
    · exact this u hu
theorem dat_mid (a : List Int) (b : Int) (r : List Int) (i : Nat) (h : a.length = i) : dat (a ++ b :: r) i = b := by
  subst h; simp [dat, List.getD_eq_getElem?_getD]
theorem n37j (s : Bool) (yy : T) (s2 e2 s3 e3 : Bool) (x y : List Int) (a : Int) (ha : 0 ≤ a ∧ a < 4294967296) (hy : Dg y) (i : Nat) (hi : i ≤ 1000) (hny : y.length ≤ 1000) (R : List T) : ∀ (yr : List Int) (j : Nat) (c : Int) (pre mid : List Int), y.drop j = yr → j ≤ y.length → pre.length = i + j → yr.length < mid.length → Dg mid → 0 ≤ c ∧ c < 4294967296 →
    Or K37n3m1 [r0, AV.t (T.ptr [tb s2, T.lst 1 e2 (encD x)]), AV.t (T.ptr [tb s3, T.lst 1 e3 (encD y)]), o1, lu e2 x, I (x.length : Int), I ((i + 1 : Nat) : Int)] [Blk.box [AV.t (T.bool s), AV.t yy], Blk.sl false 1 false (encD (pre ++ mulRow a yr mid c))] = some R →
    Or K37n7m1 [r0, AV.t (T.ptr [tb s2, T.lst 1 e2 (encD x)]), AV.t (T.ptr [tb s3, T.lst 1 e3 (encD y)]), o1, I (i : Int), AV.t (T.int .u32 a), AV.t (T.int .u64 c), lu e2 x, I (x.length : Int), I (i : Int), lu e3 y, I (y.length : Int), I (j : Int)] [Blk.box [AV.t (T.bool s), AV.t yy], Blk.sl false 1 false (encD (pre ++ mid))] = some R := by
  intro yr
  induction yr with
  | nil =>
    intro j c pre mid h hj hp hm hmd hc hR
    have hle := at_end h
    obtain rfl : j = y.length := by omega
    match mid, hm with
    | o :: r, _ =>
      have h1 : ¬ (y.length : Int) < (y.length : Int) := by omega
      have hw : IntKind.i64.wrap ((i : Int) + (y.length : Int)) = ((i + y.length : Nat) : Int) := by rw [wr (by omega)]; omega
      have h2 : 0 ≤ ((i + y.length : Nat) : Int) ∧ ((i + y.length : Nat) : Int) < ((pre ++ o :: r).length : Int) := by simp; omega
      have hs := encD_set (d := pre ++ o :: r) (i := i + y.length) (by simp; omega) c
      rw [set_mid pre o c r _ hp] at hs
      have hw2 : IntKind.u32.wrap c = c := by rw [wr32]; omega
      refine orc_of ?_
      rw [e37n7]
      simp only [STL, ↓reduceIte, Int.reduceBEq, Int.reduceEq, h1, encD_len, hw, h2, and_self, hw2, hs, next i (by omega)]
      exact hR
  | cons b yr ih =>
    intro j c pre mid h hj hp hm hmd hc hR
    obtain ⟨g1, g2, g3⟩ := at_drop h
    have hb := hy b (List.mem_of_getElem? g1)
    have hdb := dat_of h
    match mid, hm, hmd, hR with
    | o :: r, hm, hmd, hR =>
      have ho := hmd o List.mem_cons_self
      have hab := mul_b ha hb
      have h1 : (j : Int) < (y.length : Int) := by omega
      have h0 : 0 ≤ (j : Int) := by omega
      have hw : IntKind.i64.wrap ((i : Int) + (j : Int)) = ((i + j : Nat) : Int) := by rw [wr (by omega)]; omega
      have h2 : 0 ≤ ((i + j : Nat) : Int) ∧ ((i + j : Nat) : Int) < ((pre ++ o :: r).length : Int) := by simp; omega
      have hg : (encD (pre ++ o :: r))[((i + j : Nat) : Int).toNat]? = some [T.int .u32 o] := by
        rw [encD_at (by simp; omega), dat_mid pre o r _ hp]
      have hs : ∀ v, storeIn ((i + j : Nat) : Int).toNat 0 [T.int .u32 v] (encD (pre ++ o :: r)) = some (encD ((pre ++ [v]) ++ r)) := fun v => by
        rw [encD_set (by simp; omega), set_mid pre o v r _ hp]
        simp
      have w1 : IntKind.u64.wrap a = a := w64 (by omega)
      have w2 : IntKind.u64.wrap b = b := w64 (by omega)
      have w3 : IntKind.u64.wrap o = o := w64 (by omega)
      have w4 : IntKind.u64.wrap (a * b) = a * b := w64 (by omega)
      have w5 : IntKind.u64.wrap (a * b + o) = a * b + o := w64 (by omega)
      have w6 : IntKind.u64.wrap (c + (a * b + o)) = c + a * b + o := by rw [w64 (by omega)]; omega
      have := ih (j + 1) ((c + a * b + o) / 4294967296) (pre ++ [(c + a * b + o) % 4294967296]) r g3 (by omega) (by simp; omega) (by simpa using hm) hmd.tail (by omega) (by
        rw [mulRow] at hR
        rw [List.append_assoc]; exact hR)
      refine orc_of ?_
      rw [e37n7]
      simp only [STL, ↓reduceIte, Int.reduceBEq, Int.reduceEq, h1, h0, and_self, encD_len, encD_at g2, hdb, hw, h2, hg, w1, w2, w3, w4, w5, w6, wr32, hs, fd32, next j (by omega)]
      exact this
theorem mulRow_split {a : Int} : ∀ {y o r : List Int} {q c : Int}, y.length = o.length → mulRow a y (o ++ q :: r) c = mulRow a y (o ++ [q]) c ++ r
  | [], [], r, q, c, _ => rfl
  | [], o :: os, r, q, c, h => by simp at h
  | b :: y, [], r, q, c, h => by simp at h
  | b :: y, o :: os, r, q, c, h => by
    simp only [List.cons_append, mulRow]
    rw [mulRow_split (by simpa using h)]
theorem n37i (s : Bool) (yy : T) (s2 e2 s3 e3 : Bool) (x y : List Int) (hx : Dg x) (hy : Dg y) (hnx : x.length ≤ 400) (hny : y.length ≤ 400) : ∀ (xr : List Int) (i : Nat) (lo mid : List Int), x.drop i = xr → i ≤ x.length → lo.length = i → mid.length = y.length → Dg lo → Dg mid →
    ∃ d, Or K37n3m1 [r0, AV.t (T.ptr [tb s2, T.lst 1 e2 (encD x)]), AV.t (T.ptr [tb s3, T.lst 1 e3 (encD y)]), o1, lu e2 x, I (x.length : Int), I (i : Int)] [Blk.box [AV.t (T.bool s), AV.t yy], Blk.sl false 1 false (encD (lo ++ (mid ++ List.replicate xr.length 0)))] = some [T.nilp, tb ((!s2 == s3) && decide (trim d ≠ [])), T.lst 1 false (encD (trim d))] ∧
      Dg d ∧ d.length = x.length + y.length ∧ val d = val (lo ++ mid) + 4294967296 ^ i * (val xr * val y) := by
  intro xr
  induction xr with
  | nil =>
    intro i lo mid h hi hlo hmid hdl hdm
    have hle := at_end h
    have h1 : ¬ (i : Int) < (x.length : Int) := by omega
    have hlen : (lo ++ mid).length = x.length + y.length := by simp; omega
    have h51 := s51 (!s2 == s3) false (lo ++ mid) (by omega)
    refine ⟨lo ++ mid, orc_of ?_, fun u hu => ?_, hlen, by simp [val]⟩
    · rw [e37n3]
      simp only [List.length_nil, List.replicate_zero, List.append_nil]
      simp only [STL, ↓reduceIte, Int.reduceBEq, Int.reduceEq, h1, h51]
    · rcases List.mem_append.1 hu with hu | hu
      · exact hdl u hu
      · exact hdm u hu
  | cons a xr ih =>
    intro i lo mid h hi hlo hmid hdl hdm
    obtain ⟨g1, g2, g3⟩ := at_drop h
    have ha := hx a (List.mem_of_getElem? g1)
    have hda := dat_of h
    have h1 : (i : Int) < (x.length : Int) := by omega
    have h0 : 0 ≤ (i : Int) := by omega
    have hd0 : Dg (mid ++ [0]) := fun u hu => by
      rcases List.mem_append.1 hu with hu | hu
      · exact hdm u hu
      · simp only [List.mem_singleton] at hu; subst hu; omega
    have hv0 := mulRow_val ha (y := y) (o := mid) (r := []) (c := 0) hmid.symm
    have hl0 := mulRow_len (a := a) (y := y) (o := mid ++ [0]) (c := 0)
    have hg0 := mulRow_dg ha (y := y) (o := mid ++ [0]) (c := 0) hy hd0 (by omega)
    have hsp := mulRow_split (a := a) (y := y) (o := mid) (r := List.replicate xr.length 0) (q := 0) (c := 0) hmid.symm
    have hdz : Dg (mid ++ List.replicate (a :: xr).length 0) := fun u hu => by
      rcases List.mem_append.1 hu with hu | hu
      · exact hdm u hu
      · have := List.eq_of_mem_replicate hu; omega
    generalize mulRow a y (mid ++ [0]) 0 = res at *
    cases res with
    | nil => simp at hl0
    | cons hd t =>
      simp only [List.length_cons, List.length_append, List.length_nil] at hl0
      obtain ⟨d, k1, k2, k3, k4⟩ := ih (i + 1) (lo ++ [hd]) t g3 (by omega) (by simp [hlo]) (by omega) (fun u hu => by
        rcases List.mem_append.1 hu with hu | hu
        · exact hdl u hu
        · simp only [List.mem_singleton] at hu; subst hu; exact hg0 u List.mem_cons_self) hg0.tail
      have hin := n37j s yy s2 e2 s3 e3 x y a ha hy i (by omega) (by omega) _ y 0 0 lo (mid ++ List.replicate (a :: xr).length 0) rfl (by omega) (by omega) (by simp; omega) hdz (by omega) (by
        rw [show mid ++ List.replicate (a :: xr).length 0 = mid ++ 0 :: List.replicate xr.length 0 from rfl, hsp]
        rw [show lo ++ (hd :: t ++ List.replicate xr.length 0) = lo ++ [hd] ++ (t ++ List.replicate xr.length 0) from by simp]
        exact k1)
      refine ⟨d, orc_of ?_, k2, k3, ?_⟩
      · rw [e37n3]
        simp only [STL, ↓reduceIte, Int.reduceBEq, Int.reduceEq, h1, h0, and_self, encD_len, encD_at g2, hda]
        exact hin
      · rw [k4]
        have e1 : lo ++ [hd] ++ t = lo ++ hd :: t := by simp
        have e2 : val (mid ++ [0]) = val mid := by rw [val_append]; simp [val]
        have e3 : (4294967296 : Int) ^ i * ((a + 4294967296 * val xr) * val y) = 4294967296 ^ i * (a * val y) + 4294967296 ^ i * 4294967296 * (val xr * val y) := by
          rw [Int.add_mul, Int.mul_add]; simp only [Int.mul_assoc]
        rw [e1, val_append, val_append, hlo, hv0, e2, Int.pow_succ]
        simp only [val]
        rw [e3, Int.zero_add, Int.mul_add]
        omega
theorem val_zeros : ∀ n : Nat, val (List.replicate n 0) = 0
  | 0 => rfl
  | n + 1 => by simp only [List.replicate_succ, val, val_zeros n]; omega
theorem s37 (s : Bool) (yy : T) (s2 e2 s3 e3 : Bool) (a b : List Int) (u v : Int) (ha : Rep u s2 a) (hb : Rep v s3 b) (la : a.length ≤ 400) (lb : b.length ≤ 400) :
    Sets (u * v) (a.length + b.length) (Or (.call 72) [r0, AV.t (T.ptr [tb s2, T.lst 1 e2 (encD a)]), AV.t (T.ptr [tb s3, T.lst 1 e3 (encD b)])] [Blk.box [AV.t (T.bool s), AV.t yy]]) := by
  obtain ⟨d, k1, k2, k3, k4⟩ := n37i s yy s2 e2 s3 e3 a b ha.dg hb.dg la lb a 0 [] (List.replicate b.length 0) rfl (by omega) rfl (by simp) (fun u hu => by cases hu) (fun u hu => by
    have := List.eq_of_mem_replicate hu; omega)
  have hv : val d = val a * val b := by
    rw [k4, List.nil_append, val_zeros]; simp
  have hw : IntKind.i64.wrap ((a.length : Int) + (b.length : Int)) = ((b.length + a.length : Nat) : Int) := by rw [wr (by omega)]; omega
  have hmk : mkOk ((b.length + a.length : Nat) : Int) ((b.length + a.length : Nat) : Int) = some () := by unfold mkOk lim; rw [if_pos (by omega)]
  have he : encD ([] ++ (List.replicate b.length 0 ++ List.replicate a.length 0)) = List.replicate (b.length + a.length) [T.int IntKind.u32 0] := by
    rw [List.nil_append, List.replicate_append_replicate]; simp [encD]
  rw [he] at k1
  have hu := ha.z
  have hv' := hb.z
  refine ⟨(!s2 == s3) && decide (trim d ≠ []), false, trim d, orc_of ?_, trim_rep (s := !s2 == s3) k2 ?_, by have := trim_len d; omega⟩
  · rw [e37]
    simp only [encD_len, hw]
    simp only [STL, ↓reduceIte, Int.reduceBEq, Int.reduceEq, hmk, Int.toNat_natCast]
    exact k1
  · unfold num at hu hv' ⊢
    rw [hv, ← hu, ← hv']
    cases s2 <;> cases s3 <;> simp [Int.mul_neg, Int.neg_mul]
end Go.Aev.Wd
