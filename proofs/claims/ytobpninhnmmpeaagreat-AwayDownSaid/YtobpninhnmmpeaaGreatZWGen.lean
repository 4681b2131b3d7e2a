/-
  Equations of the wide numbers.
-/
import Derived.Test.YtobpninhnmmpeaaGreatZGen
set_option linter.unusedSimpArgs false
set_option linter.unusedVariables false
namespace Go.Aev.Wd
open Go Go.Aev Go.Aev.Gen
noncomputable abbrev K51n2m2 : Key := nodeKey PROG 98 true 2 [(0, none), (3, none)] (2, 1002)
noncomputable abbrev K51n2m1 : Key := nodeKey PROG 98 true 2 [(0, none), (3, none)] (1, 2)
noncomputable abbrev K37n3m1 : Key := nodeKey PROG 72 true 3 [(0, none), (1, none), (2, none), (7, none), (28, none), (29, none), (30, none)] (1, 2)
noncomputable abbrev K37n7m1 : Key := nodeKey PROG 72 true 7 [(0, none), (1, none), (2, none), (7, none), (8, none), (9, none), (10, none), (28, none), (29, none), (30, none), (38, none), (39, none), (40, none)] (1, 2)
noncomputable abbrev K66n6 : Key := nodeKey PROG 105 true 6 [(0, none), (1, none), (5, none), (6, none), (20, none), (21, none), (22, none)] (0, 0)
noncomputable abbrev K68n4 : Key := nodeKey PROG 106 true 4 [(1, none), (5, none), (6, none), (13, none), (14, none), (15, none)] (0, 0)
noncomputable abbrev K67n6 : Key := nodeKey PROG 65 true 6 [(0, none), (1, none), (5, none)] (0, 0)
noncomputable abbrev K53n3 : Key := nodeKey PROG 60 true 3 [(0, none), (3, none), (4, none)] (0, 0)
noncomputable abbrev K54n2m1 : Key := nodeKey PROG 26 true 2 [(0, none), (11, some 0), (12, some 0)] (1, 2)
noncomputable abbrev K54n5m1 : Key := nodeKey PROG 26 true 5 [(0, none), (13, none), (14, none)] (1, 2)
noncomputable abbrev K41n3 : Key := nodeKey PROG 85 true 3 [(0, none), (1, none), (5, some 0), (6, none)] (0, 0)
noncomputable abbrev K79n3 : Key := nodeKey PROG 131 true 3 [(1, none), (5, none), (16, none), (17, none), (18, none)] (0, 0)
noncomputable abbrev K80n6 : Key := nodeKey PROG 132 true 6 [(0, none), (1, none), (5, none), (20, none), (21, none), (22, none)] (0, 0)
noncomputable abbrev K78n4 : Key := nodeKey PROG 130 true 4 [(0, none), (1, none), (6, none), (7, none), (8, none)] (0, 0)
noncomputable abbrev K78n11 : Key := nodeKey PROG 130 true 11 [(0, none), (1, none), (9, none)] (0, 0)
noncomputable abbrev K78n17 : Key := nodeKey PROG 130 true 17 [(9, none), (10, none), (11, some 0), (12, none), (13, none), (14, none)] (0, 0)
noncomputable abbrev K78n21 : Key := nodeKey PROG 130 true 21 [(9, none), (10, none), (11, some 0), (12, none), (13, none), (14, none), (16, none), (17, none)] (0, 0)
noncomputable abbrev K78n27 : Key := nodeKey PROG 130 true 27 [(9, none), (10, none), (11, some 0), (12, none), (13, none), (14, none), (16, none), (18, none), (19, none), (172, none), (173, none), (174, none)] (0, 0)
noncomputable abbrev K78n41 : Key := nodeKey PROG 130 true 41 [(9, none), (10, none), (11, some 0), (12, none), (13, none), (14, none), (16, none), (18, none), (233, none), (234, none), (235, none)] (0, 0)
theorem e35 (O : Orc) (n : Int) : stepO PROG ann O (Key.call 27) [AV.t (T.int .i64 n)] [] =
  (gdK none
    (O (Key.call 64) [AV.ref (Id.c 0) 0, AV.t (T.int IntKind.i64 n)]
      [Blk.box [AV.t (T.bool false), AV.t (T.emp true)]])
    fun l =>
    gdK none l.head? fun x =>
      gdK none (List.drop 1 l).head? fun x =>
        gdK none x.bool? fun b =>
          gdK none (List.drop 1 l).tail.head? fun x =>
            gdK none (T.lst? 1 x) fun p => some [T.ptr [T.bool b, T.lst 1 p.fst p.snd]]) := by kernel_rfl
theorem e48 (O : Orc) (s : Bool) (y : T) (n : Int) : stepO PROG ann O (Key.call 64) [AV.ref (Id.c 0) 0, AV.t (T.int .i64 n)] [Blk.box [AV.t (T.bool s), AV.t y]] =
  (bif decide (n < (0 : Int)) then
    gdK none
      (O (Key.call 61)
        [AV.ref (Id.c 0) 0, AV.t (T.int IntKind.u64 (IntKind.u64.wrap ((0 : Int) - IntKind.u64.wrap n)))]
        [Blk.box [AV.t (T.bool s), AV.t y]])
      fun l =>
      gdK none l.head? fun x =>
        gdK none (List.drop 1 l).head? fun x =>
          gdK none x.bool? fun b =>
            gdK none (List.drop 1 l).tail.head? fun x =>
              gdK none (T.lst? 1 x) fun p => some [T.nilp, T.bool true, T.lst 1 p.fst p.snd]
  else
    gdK none
      (O (Key.call 61) [AV.ref (Id.c 0) 0, AV.t (T.int IntKind.u64 (IntKind.u64.wrap n))]
        [Blk.box [AV.t (T.bool s), AV.t y]])
      fun l =>
      gdK none l.head? fun x =>
        gdK none (List.drop 1 l).head? fun x =>
          gdK none x.bool? fun b =>
            gdK none (List.drop 1 l).tail.head? fun x =>
              gdK none (T.lst? 1 x) fun p => some [T.nilp, T.bool b, T.lst 1 p.fst p.snd]) := by kernel_rfl
theorem e65 (O : Orc) (s : Bool) (y : T) (n : Int) : stepO PROG ann O (Key.call 61) [AV.ref (Id.c 0) 0, AV.t (T.int .u64 n)] [Blk.box [AV.t (T.bool s), AV.t y]] =
  (gdK none
    (O (Key.call 98) [AV.ref (Id.c 0) 0]
      [Blk.box [AV.t (T.bool false), AV.own (Id.c 1)],
        Blk.sl false 1 false
          [[T.int IntKind.u32 (IntKind.u32.wrap n)],
            [T.int IntKind.u32 (IntKind.u32.wrap (n.fdiv ((2 : Int) ^ 32)))]]])
    fun l =>
    gdK none l.head? fun x =>
      gdK none (List.drop 1 l).head? fun x =>
        gdK none x.bool? fun b =>
          gdK none (List.drop 1 l).tail.head? fun x =>
            gdK none (T.lst? 1 x) fun p => some [T.nilp, T.bool b, T.lst 1 p.fst p.snd]) := by kernel_rfl
theorem e51 (O : Orc) (s : Bool) (e : Bool) (d : List (List T)) : stepO PROG ann O (Key.call 98) [AV.ref (Id.c 0) 0] [Blk.box [AV.t (T.bool s), AV.own (Id.c 1)], Blk.sl false 1 e d] =
  (O K51n2m2
    [AV.ref (Id.c 0) 0, AV.t (T.int IntKind.i64 (↑d.length : Int))]
    [Blk.box [AV.t (T.bool s), AV.own (Id.c 1)], Blk.sl false 1 e d]) := by kernel_rfl
theorem e51n2 (O : Orc) (v3 : Int) (c0_0 : Bool) (ec1 : Bool) (c1 : List (List T)) : stepO PROG ann O K51n2m2 [(AV.ref (Id.c 0) 0), (AV.t (T.int IntKind.i64 v3))] [(Blk.box [(AV.t (T.bool c0_0)), (AV.own (Id.c 1))]), (Blk.sl false 1 ec1 c1)] =
  (gdK (some (decide (v3 > (0 : Int))))
    (if (0 : Int) ≤ IntKind.i64.wrap (v3 - (1 : Int)) ∧ IntKind.i64.wrap (v3 - (1 : Int)) < (↑c1.length : Int) then
      some ()
    else none)
    fun x =>
    gdK (some (decide (v3 > (0 : Int)))) c1[(IntKind.i64.wrap (v3 - (1 : Int))).toNat]? fun l =>
      gdK (some (decide (v3 > (0 : Int)))) l.head? fun x =>
        gdK (some (decide (v3 > (0 : Int)))) (T.int? IntKind.u32 x) fun n =>
          bif bif decide (v3 > (0 : Int)) then n == (0 : Int) else false then
            O K51n2m2
              [AV.ref (Id.c 0) 0, AV.t (T.int IntKind.i64 (IntKind.i64.wrap (v3 - (1 : Int))))]
              [Blk.box [AV.t (T.bool c0_0), AV.own (Id.c 1)], Blk.sl false 1 ec1 c1]
          else
            gdK none (inB (0 : Int) v3 (↑c1.length : Int)) fun x =>
              bif v3 == (0 : Int) then
                some [T.nilp, T.bool false, T.lst 1 ec1 (List.take (v3.toNat - 0) c1)]
              else some [T.nilp, T.bool c0_0, T.lst 1 ec1 (List.take (v3.toNat - 0) c1)]) := by kernel_rfl
theorem e51t (O : Orc) (s : Bool) (e : Bool) (d : List (List T)) : stepO PROG ann O (Key.call 98) [AV.ref (Id.c 0) 0] [Blk.box [AV.t (T.bool s), AV.t (T.lst 1 e d)]] =
  (O K51n2m1
    [AV.ref (Id.c 0) 0, AV.t (T.int IntKind.i64 (↑d.length : Int))]
    [Blk.box [AV.t (T.bool s), AV.t (T.lst 1 e d)]]) := by kernel_rfl
theorem e51n2s2 (O : Orc) (v3 : Int) (c0_0 : Bool) (ec0_1 : Bool) (c0_1 : List (List T)) : stepO PROG ann O K51n2m1 [(AV.ref (Id.c 0) 0), (AV.t (T.int IntKind.i64 v3))] [(Blk.box [(AV.t (T.bool c0_0)), (AV.t (T.lst 1 ec0_1 c0_1))])] =
  (gdK (some (decide (v3 > (0 : Int))))
    (if (0 : Int) ≤ IntKind.i64.wrap (v3 - (1 : Int)) ∧ IntKind.i64.wrap (v3 - (1 : Int)) < (↑c0_1.length : Int) then
      some ()
    else none)
    fun x =>
    gdK (some (decide (v3 > (0 : Int)))) c0_1[(IntKind.i64.wrap (v3 - (1 : Int))).toNat]? fun l =>
      gdK (some (decide (v3 > (0 : Int)))) l.head? fun x =>
        gdK (some (decide (v3 > (0 : Int)))) (T.int? IntKind.u32 x) fun n =>
          bif bif decide (v3 > (0 : Int)) then n == (0 : Int) else false then
            O K51n2m1
              [AV.ref (Id.c 0) 0, AV.t (T.int IntKind.i64 (IntKind.i64.wrap (v3 - (1 : Int))))]
              [Blk.box [AV.t (T.bool c0_0), AV.t (T.lst 1 ec0_1 c0_1)]]
          else
            gdK none (inB (0 : Int) v3 (↑c0_1.length : Int)) fun x =>
              bif v3 == (0 : Int) then some [T.nilp, T.bool false, T.lst 1 ec0_1 (sub (0 : Int) v3 c0_1)]
              else some [T.nilp, T.bool c0_0, T.lst 1 ec0_1 (sub (0 : Int) v3 c0_1)]) := by kernel_rfl
theorem e69 (O : Orc) (s : Bool) (y : T) (s2 : Bool) (eq2 : Bool) (d2 : List (List T)) : stepO PROG ann O (Key.call 63) [AV.ref (Id.c 0) 0, AV.t (T.ptr [T.bool s2, T.lst 1 eq2 d2])] [Blk.box [AV.t (T.bool s), AV.t y]] =
  (gdK none (small 4 d2.length) fun x => some [T.nilp, T.bool s2, T.lst 1 false d2]) := by kernel_rfl
theorem e50 (O : Orc) (s : Bool) (y : T) (s2 : Bool) (eq2 : Bool) (d2 : List (List T)) : stepO PROG ann O (Key.call 103) [AV.ref (Id.c 0) 0, AV.t (T.ptr [T.bool s2, T.lst 1 eq2 d2])] [Blk.box [AV.t (T.bool s), AV.t y]] =
  (gdK none
    (O (Key.call 63) [AV.ref (Id.c 0) 0, AV.t (T.ptr [T.bool s2, T.lst 1 eq2 d2])]
      [Blk.box [AV.t (T.bool s), AV.t y]])
    fun l =>
    gdK none l.head? fun x =>
      gdK none (List.drop 1 l).head? fun x =>
        gdK none x.bool? fun b =>
          gdK none (List.drop 1 l).tail.head? fun x =>
            gdK none (T.lst? 1 x) fun p =>
              some
                [T.nilp, T.bool (bif !b then decide ((↑p.snd.length : Int) > (0 : Int)) else false),
                  T.lst 1 p.fst p.snd]) := by kernel_rfl
theorem e49 (O : Orc) (s : Bool) (y : T) (s2 : Bool) (eq2 : Bool) (d2 : List (List T)) (s3 : Bool) (eq3 : Bool) (d3 : List (List T)) : stepO PROG ann O (Key.call 75) [AV.ref (Id.c 0) 0, AV.t (T.ptr [T.bool s2, T.lst 1 eq2 d2]), AV.t (T.ptr [T.bool s3, T.lst 1 eq3 d3])] [Blk.box [AV.t (T.bool s), AV.t y]] =
  (bif s2 == s3 then
    gdK none (O (Key.call 105) [AV.t (T.lst 1 eq2 d2), AV.t (T.lst 1 eq3 d3)] []) fun l =>
      gdK none l.head? fun x =>
        gdK none (T.lst? 1 x) fun p =>
          gdK none
            (O (Key.call 98) [AV.ref (Id.c 0) 0]
              [Blk.box [AV.t (T.bool s2), AV.own (Id.c 1)], Blk.sl false 1 p.fst p.snd])
            fun l =>
            gdK none l.head? fun x =>
              gdK none (List.drop 1 l).head? fun x =>
                gdK none x.bool? fun b =>
                  gdK none (List.drop 1 l).tail.head? fun x =>
                    gdK none (T.lst? 1 x) fun p => some [T.nilp, T.bool b, T.lst 1 p.fst p.snd]
  else
    gdK none
      (O (Key.call 65)
        [AV.t (T.ptr [T.bool s2, T.lst 1 eq2 d2]), AV.t (T.ptr [T.bool s3, T.lst 1 eq3 d3])] [])
      fun l =>
      gdK none l.head? fun x =>
        gdK none (T.int? IntKind.i64 x) fun n =>
          bif decide (n ≥ (0 : Int)) then
            gdK none (O (Key.call 106) [AV.t (T.lst 1 eq2 d2), AV.t (T.lst 1 eq3 d3)] []) fun l =>
              gdK none l.head? fun x =>
                gdK none (T.lst? 1 x) fun p =>
                  gdK none
                    (O (Key.call 98) [AV.ref (Id.c 0) 0]
                      [Blk.box [AV.t (T.bool s2), AV.own (Id.c 1)], Blk.sl false 1 p.fst p.snd])
                    fun l =>
                    gdK none l.head? fun x =>
                      gdK none (List.drop 1 l).head? fun x =>
                        gdK none x.bool? fun b =>
                          gdK none (List.drop 1 l).tail.head? fun x =>
                            gdK none (T.lst? 1 x) fun p => some [T.nilp, T.bool b, T.lst 1 p.fst p.snd]
          else
            gdK none (O (Key.call 106) [AV.t (T.lst 1 eq3 d3), AV.t (T.lst 1 eq2 d2)] []) fun l =>
              gdK none l.head? fun x =>
                gdK none (T.lst? 1 x) fun p =>
                  gdK none
                    (O (Key.call 98) [AV.ref (Id.c 0) 0]
                      [Blk.box [AV.t (T.bool s3), AV.own (Id.c 1)], Blk.sl false 1 p.fst p.snd])
                    fun l =>
                    gdK none l.head? fun x =>
                      gdK none (List.drop 1 l).head? fun x =>
                        gdK none x.bool? fun b =>
                          gdK none (List.drop 1 l).tail.head? fun x =>
                            gdK none (T.lst? 1 x) fun p => some [T.nilp, T.bool b, T.lst 1 p.fst p.snd]) := by kernel_rfl
theorem e49z (O : Orc) (s : Bool) (e : Bool) (d : List (List T)) (s3 : Bool) (eq3 : Bool) (d3 : List (List T)) : stepO PROG ann O (Key.call 75) [AV.ref (Id.c 0) 0, AV.ref (Id.c 0) 0, AV.t (T.ptr [T.bool s3, T.lst 1 eq3 d3])] [Blk.box [AV.t (T.bool s), AV.t (T.lst 1 e d)]] =
  (bif s == s3 then
    gdK none (O (Key.call 105) [AV.t (T.lst 1 e d), AV.t (T.lst 1 eq3 d3)] []) fun l =>
      gdK none l.head? fun x =>
        gdK none (T.lst? 1 x) fun p =>
          gdK none
            (O (Key.call 98) [AV.ref (Id.c 0) 0]
              [Blk.box [AV.t (T.bool s), AV.own (Id.c 1)], Blk.sl false 1 p.fst p.snd])
            fun l =>
            gdK none l.head? fun x =>
              gdK none (List.drop 1 l).head? fun x =>
                gdK none x.bool? fun b =>
                  gdK none (List.drop 1 l).tail.head? fun x =>
                    gdK none (T.lst? 1 x) fun p => some [T.nilp, T.bool b, T.lst 1 p.fst p.snd]
  else
    gdK none
      (O (Key.call 65)
        [AV.t (T.ptr [T.bool s, T.lst 1 e d]), AV.t (T.ptr [T.bool s3, T.lst 1 eq3 d3])] [])
      fun l =>
      gdK none l.head? fun x =>
        gdK none (T.int? IntKind.i64 x) fun n =>
          bif decide (n ≥ (0 : Int)) then
            gdK none (O (Key.call 106) [AV.t (T.lst 1 e d), AV.t (T.lst 1 eq3 d3)] []) fun l =>
              gdK none l.head? fun x =>
                gdK none (T.lst? 1 x) fun p =>
                  gdK none
                    (O (Key.call 98) [AV.ref (Id.c 0) 0]
                      [Blk.box [AV.t (T.bool s), AV.own (Id.c 1)], Blk.sl false 1 p.fst p.snd])
                    fun l =>
                    gdK none l.head? fun x =>
                      gdK none (List.drop 1 l).head? fun x =>
                        gdK none x.bool? fun b =>
                          gdK none (List.drop 1 l).tail.head? fun x =>
                            gdK none (T.lst? 1 x) fun p => some [T.nilp, T.bool b, T.lst 1 p.fst p.snd]
          else
            gdK none (O (Key.call 106) [AV.t (T.lst 1 eq3 d3), AV.t (T.lst 1 e d)] []) fun l =>
              gdK none l.head? fun x =>
                gdK none (T.lst? 1 x) fun p =>
                  gdK none
                    (O (Key.call 98) [AV.ref (Id.c 0) 0]
                      [Blk.box [AV.t (T.bool s3), AV.own (Id.c 1)], Blk.sl false 1 p.fst p.snd])
                    fun l =>
                    gdK none l.head? fun x =>
                      gdK none (List.drop 1 l).head? fun x =>
                        gdK none x.bool? fun b =>
                          gdK none (List.drop 1 l).tail.head? fun x =>
                            gdK none (T.lst? 1 x) fun p => some [T.nilp, T.bool b, T.lst 1 p.fst p.snd]) := by kernel_rfl
theorem e36 (O : Orc) (s : Bool) (y : T) (s2 : Bool) (eq2 : Bool) (d2 : List (List T)) (s3 : Bool) (eq3 : Bool) (d3 : List (List T)) : stepO PROG ann O (Key.call 120) [AV.ref (Id.c 0) 0, AV.t (T.ptr [T.bool s2, T.lst 1 eq2 d2]), AV.t (T.ptr [T.bool s3, T.lst 1 eq3 d3])] [Blk.box [AV.t (T.bool s), AV.t y]] =
  (gdK none
    (O (Key.call 103) [AV.ref (Id.c 0) 0, AV.t (T.ptr [T.bool s3, T.lst 1 eq3 d3])]
      [Blk.box [AV.t (T.bool false), AV.t (T.emp true)]])
    fun l =>
    gdK none l.head? fun x =>
      gdK none (List.drop 1 l).head? fun x =>
        gdK none x.bool? fun b =>
          gdK none (List.drop 1 l).tail.head? fun x =>
            gdK none (T.lst? 1 x) fun p =>
              gdK none
                (O (Key.call 75)
                  [AV.ref (Id.c 0) 0, AV.t (T.ptr [T.bool s2, T.lst 1 eq2 d2]),
                    AV.t (T.ptr [T.bool b, T.lst 1 p.fst p.snd])]
                  [Blk.box [AV.t (T.bool s), AV.t y]])
                fun l =>
                gdK none l.head? fun x =>
                  gdK none (List.drop 1 l).head? fun x =>
                    gdK none x.bool? fun b =>
                      gdK none (List.drop 1 l).tail.head? fun x =>
                        gdK none (T.lst? 1 x) fun p => some [T.nilp, T.bool b, T.lst 1 p.fst p.snd]) := by kernel_rfl
theorem e36z (O : Orc) (s : Bool) (e : Bool) (d : List (List T)) (s3 : Bool) (eq3 : Bool) (d3 : List (List T)) : stepO PROG ann O (Key.call 120) [AV.ref (Id.c 0) 0, AV.ref (Id.c 0) 0, AV.t (T.ptr [T.bool s3, T.lst 1 eq3 d3])] [Blk.box [AV.t (T.bool s), AV.t (T.lst 1 e d)]] =
  (gdK none
    (O (Key.call 103) [AV.ref (Id.c 0) 0, AV.t (T.ptr [T.bool s3, T.lst 1 eq3 d3])]
      [Blk.box [AV.t (T.bool false), AV.t (T.emp true)]])
    fun l =>
    gdK none l.head? fun x =>
      gdK none (List.drop 1 l).head? fun x =>
        gdK none x.bool? fun b =>
          gdK none (List.drop 1 l).tail.head? fun x =>
            gdK none (T.lst? 1 x) fun p =>
              gdK none
                (O (Key.call 75)
                  [AV.ref (Id.c 0) 0, AV.ref (Id.c 0) 0,
                    AV.t (T.ptr [T.bool b, T.lst 1 p.fst p.snd])]
                  [Blk.box [AV.t (T.bool s), AV.t (T.lst 1 e d)]])
                fun l =>
                gdK none l.head? fun x =>
                  gdK none (List.drop 1 l).head? fun x =>
                    gdK none x.bool? fun b =>
                      gdK none (List.drop 1 l).tail.head? fun x =>
                        gdK none (T.lst? 1 x) fun p => some [T.nilp, T.bool b, T.lst 1 p.fst p.snd]) := by kernel_rfl
theorem e37 (O : Orc) (s : Bool) (y : T) (s2 : Bool) (eq2 : Bool) (d2 : List (List T)) (s3 : Bool) (eq3 : Bool) (d3 : List (List T)) : stepO PROG ann O (Key.call 72) [AV.ref (Id.c 0) 0, AV.t (T.ptr [T.bool s2, T.lst 1 eq2 d2]), AV.t (T.ptr [T.bool s3, T.lst 1 eq3 d3])] [Blk.box [AV.t (T.bool s), AV.t y]] =
  (gdK none
    (mkOk (IntKind.i64.wrap ((↑d2.length : Int) + (↑d3.length : Int)))
      (IntKind.i64.wrap ((↑d2.length : Int) + (↑d3.length : Int))))
    fun x =>
    O
      K37n3m1
      [AV.ref (Id.c 0) 0, AV.t (T.ptr [T.bool s2, T.lst 1 eq2 d2]),
        AV.t (T.ptr [T.bool s3, T.lst 1 eq3 d3]), AV.own (Id.c 1), AV.t (T.lst 1 eq2 d2),
        AV.t (T.int IntKind.i64 (↑d2.length : Int)), AV.t (T.int IntKind.i64 (0 : Int))]
      [Blk.box [AV.t (T.bool s), AV.t y],
        Blk.sl false 1 false
          (List.replicate (IntKind.i64.wrap ((↑d2.length : Int) + (↑d3.length : Int))).toNat
            [T.int IntKind.u32 (0 : Int)])]) := by kernel_rfl
theorem e37n3 (O : Orc) (v1_0 : Bool) (ev1_1 : Bool) (v1_1 : List (List T)) (v2_0 : Bool) (ev2_1 : Bool) (v2_1 : List (List T)) (ev28 : Bool) (v28 : List (List T)) (v29 : Int) (v30 : Int) (c0_0 : Bool) (c0_1 : T) (ec1 : Bool) (c1 : List (List T)) : stepO PROG ann O K37n3m1 [(AV.ref (Id.c 0) 0), (AV.t (T.ptr [(T.bool v1_0), (T.lst 1 ev1_1 v1_1)])), (AV.t (T.ptr [(T.bool v2_0), (T.lst 1 ev2_1 v2_1)])), (AV.own (Id.c 1)), (AV.t (T.lst 1 ev28 v28)), (AV.t (T.int IntKind.i64 v29)), (AV.t (T.int IntKind.i64 v30))] [(Blk.box [(AV.t (T.bool c0_0)), (AV.t c0_1)]), (Blk.sl false 1 ec1 c1)] =
  (bif decide (v30 < v29) then
    gdK none (if (0 : Int) ≤ v30 ∧ v30 < (↑v28.length : Int) then some () else none) fun x =>
      gdK none v28[v30.toNat]? fun l =>
        gdK none l.head? fun x =>
          gdK none (T.int? IntKind.u32 x) fun n =>
            O
              K37n7m1
              [AV.ref (Id.c 0) 0, AV.t (T.ptr [T.bool v1_0, T.lst 1 ev1_1 v1_1]),
                AV.t (T.ptr [T.bool v2_0, T.lst 1 ev2_1 v2_1]), AV.own (Id.c 1),
                AV.t (T.int IntKind.i64 v30), AV.t (T.int IntKind.u32 n), AV.t (T.int IntKind.u64 (0 : Int)),
                AV.t (T.lst 1 ev28 v28), AV.t (T.int IntKind.i64 v29), AV.t (T.int IntKind.i64 v30),
                AV.t (T.lst 1 ev2_1 v2_1), AV.t (T.int IntKind.i64 (↑v2_1.length : Int)),
                AV.t (T.int IntKind.i64 (0 : Int))]
              [Blk.box [AV.t (T.bool c0_0), AV.t c0_1], Blk.sl false 1 ec1 c1]
  else
    gdK none
      (O (Key.call 98) [AV.ref (Id.c 0) 0]
        [Blk.box [AV.t (T.bool !v1_0 == v2_0), AV.own (Id.c 1)], Blk.sl false 1 ec1 c1])
      fun l =>
      gdK none l.head? fun x =>
        gdK none (List.drop 1 l).head? fun x =>
          gdK none x.bool? fun b =>
            gdK none (List.drop 1 l).tail.head? fun x =>
              gdK none (T.lst? 1 x) fun p => some [T.nilp, T.bool b, T.lst 1 p.fst p.snd]) := by kernel_rfl
theorem e37n7 (O : Orc) (v1_0 : Bool) (ev1_1 : Bool) (v1_1 : List (List T)) (v2_0 : Bool) (ev2_1 : Bool) (v2_1 : List (List T)) (v8 : Int) (v9 : Int) (v10 : Int) (ev28 : Bool) (v28 : List (List T)) (v29 : Int) (v30 : Int) (ev38 : Bool) (v38 : List (List T)) (v39 : Int) (v40 : Int) (c0_0 : Bool) (c0_1 : T) (ec1 : Bool) (c1 : List (List T)) : stepO PROG ann O K37n7m1 [(AV.ref (Id.c 0) 0), (AV.t (T.ptr [(T.bool v1_0), (T.lst 1 ev1_1 v1_1)])), (AV.t (T.ptr [(T.bool v2_0), (T.lst 1 ev2_1 v2_1)])), (AV.own (Id.c 1)), (AV.t (T.int IntKind.i64 v8)), (AV.t (T.int IntKind.u32 v9)), (AV.t (T.int IntKind.u64 v10)), (AV.t (T.lst 1 ev28 v28)), (AV.t (T.int IntKind.i64 v29)), (AV.t (T.int IntKind.i64 v30)), (AV.t (T.lst 1 ev38 v38)), (AV.t (T.int IntKind.i64 v39)), (AV.t (T.int IntKind.i64 v40))] [(Blk.box [(AV.t (T.bool c0_0)), (AV.t c0_1)]), (Blk.sl false 1 ec1 c1)] =
  (bif decide (v40 < v39) then
    gdK none (if (0 : Int) ≤ v40 ∧ v40 < (↑v38.length : Int) then some () else none) fun x =>
      gdK none v38[v40.toNat]? fun l =>
        gdK none l.head? fun x =>
          gdK none (T.int? IntKind.u32 x) fun n =>
            gdK none
              (if (0 : Int) ≤ IntKind.i64.wrap (v8 + v40) ∧ IntKind.i64.wrap (v8 + v40) < (↑c1.length : Int) then some ()
              else none)
              fun x =>
              gdK none c1[(IntKind.i64.wrap (v8 + v40)).toNat]? fun l =>
                gdK none l.head? fun x =>
                  gdK none (T.int? IntKind.u32 x) fun n_1 =>
                    gdK none
                      (if (0 : Int) ≤ IntKind.i64.wrap (v8 + v40) ∧ IntKind.i64.wrap (v8 + v40) < (↑c1.length : Int) then
                        some ()
                      else none)
                      fun x =>
                      gdK none
                        (storeIn (IntKind.i64.wrap (v8 + v40)).toNat 0
                          [T.int IntKind.u32
                              (IntKind.u32.wrap
                                (IntKind.u64.wrap
                                  (v10 +
                                    IntKind.u64.wrap
                                      (IntKind.u64.wrap (IntKind.u64.wrap v9 * IntKind.u64.wrap n) +
                                        IntKind.u64.wrap n_1))))]
                          c1)
                        fun l =>
                        O
                          K37n7m1
                          [AV.ref (Id.c 0) 0, AV.t (T.ptr [T.bool v1_0, T.lst 1 ev1_1 v1_1]),
                            AV.t (T.ptr [T.bool v2_0, T.lst 1 ev2_1 v2_1]), AV.own (Id.c 1),
                            AV.t (T.int IntKind.i64 v8), AV.t (T.int IntKind.u32 v9),
                            AV.t
                              (T.int IntKind.u64
                                ((IntKind.u64.wrap
                                      (v10 +
                                        IntKind.u64.wrap
                                          (IntKind.u64.wrap (IntKind.u64.wrap v9 * IntKind.u64.wrap n) +
                                            IntKind.u64.wrap n_1))).fdiv
                                  ((2 : Int) ^ 32))),
                            AV.t (T.lst 1 ev28 v28), AV.t (T.int IntKind.i64 v29), AV.t (T.int IntKind.i64 v30),
                            AV.t (T.lst 1 ev38 v38), AV.t (T.int IntKind.i64 v39),
                            AV.t (T.int IntKind.i64 (IntKind.i64.wrap (v40 + (1 : Int))))]
                          [Blk.box [AV.t (T.bool c0_0), AV.t c0_1], Blk.sl false 1 ec1 l]
  else
    gdK none
      (if
          (0 : Int) ≤ IntKind.i64.wrap (v8 + (↑v2_1.length : Int)) ∧
            IntKind.i64.wrap (v8 + (↑v2_1.length : Int)) < (↑c1.length : Int) then
        some ()
      else none)
      fun x =>
      gdK none
        (storeIn (IntKind.i64.wrap (v8 + (↑v2_1.length : Int))).toNat 0 [T.int IntKind.u32 (IntKind.u32.wrap v10)]
          c1)
        fun l =>
        O
          K37n3m1
          [AV.ref (Id.c 0) 0, AV.t (T.ptr [T.bool v1_0, T.lst 1 ev1_1 v1_1]),
            AV.t (T.ptr [T.bool v2_0, T.lst 1 ev2_1 v2_1]), AV.own (Id.c 1),
            AV.t (T.lst 1 ev28 v28), AV.t (T.int IntKind.i64 v29),
            AV.t (T.int IntKind.i64 (IntKind.i64.wrap (v30 + (1 : Int))))]
          [Blk.box [AV.t (T.bool c0_0), AV.t c0_1], Blk.sl false 1 ec1 l]) := by kernel_rfl
theorem e52 (O : Orc) (s : Bool) (y : T) (s2 : Bool) (eq2 : Bool) (d2 : List (List T)) (s3 : Bool) (eq3 : Bool) (d3 : List (List T)) (s4 : Bool) (y4 : T) : stepO PROG ann O (Key.call 99) [AV.ref (Id.c 0) 0, AV.t (T.ptr [T.bool s2, T.lst 1 eq2 d2]), AV.t (T.ptr [T.bool s3, T.lst 1 eq3 d3]), AV.ref (Id.c 1) 0] [Blk.box [AV.t (T.bool s), AV.t y], Blk.box [AV.t (T.bool s4), AV.t y4]] =
  (gdK none
    (O (Key.call 63) [AV.ref (Id.c 0) 0, AV.t (T.ptr [T.bool s3, T.lst 1 eq3 d3])]
      [Blk.box [AV.t (T.bool false), AV.t (T.emp true)]])
    fun l =>
    gdK none l.head? fun x =>
      gdK none (List.drop 1 l).head? fun x =>
        gdK none x.bool? fun b =>
          gdK none (List.drop 1 l).tail.head? fun x =>
            gdK none (T.lst? 1 x) fun p =>
              gdK none
                (O (Key.call 119)
                  [AV.ref (Id.c 0) 0, AV.t (T.ptr [T.bool s2, T.lst 1 eq2 d2]),
                    AV.t (T.ptr [T.bool s3, T.lst 1 eq3 d3]), AV.ref (Id.c 1) 0]
                  [Blk.box [AV.t (T.bool s), AV.t y], Blk.box [AV.t (T.bool s4), AV.t y4]])
                fun l =>
                gdK none l.head? fun x =>
                  gdK none l.tail.head? fun x =>
                    gdK none (List.drop 2 l).head? fun x =>
                      gdK none x.bool? fun b_1 =>
                        gdK none (List.drop 2 l).tail.head? fun x =>
                          gdK none (T.lst? 1 x) fun p_1 =>
                            gdK none (List.drop 2 (List.drop 2 l)).head? fun x =>
                              gdK none x.bool? fun b_2 =>
                                gdK none (List.drop 2 (List.drop 2 l)).tail.head? fun x =>
                                  gdK none (T.lst? 1 x) fun p_2 =>
                                    bif b_2 then
                                      bif b then
                                        gdK none (O (Key.call 27) [AV.t (T.int IntKind.i64 (1 : Int))] [])
                                          fun l =>
                                          gdK none l.head? fun x =>
                                            gdK none
                                              (O (Key.call 75)
                                                [AV.ref (Id.c 0) 0, AV.ref (Id.c 0) 0,
                                                  AV.t x]
                                                [Blk.box [AV.t (T.bool b_1), AV.t (T.lst 1 p_1.fst p_1.snd)]])
                                              fun l =>
                                              gdK none l.head? fun x =>
                                                gdK none (List.drop 1 l).head? fun x =>
                                                  gdK none x.bool? fun b_3 =>
                                                    gdK none (List.drop 1 l).tail.head? fun x =>
                                                      gdK none (T.lst? 1 x) fun p_3 =>
                                                        gdK none
                                                          (O (Key.call 120)
                                                            [AV.ref (Id.c 0) 0,
                                                              AV.ref (Id.c 0) 0,
                                                              AV.t (T.ptr [T.bool b, T.lst 1 p.fst p.snd])]
                                                            [Blk.box
                                                                [AV.t (T.bool b_2),
                                                                  AV.t (T.lst 1 p_2.fst p_2.snd)]])
                                                          fun l =>
                                                          gdK none l.head? fun x =>
                                                            gdK none (List.drop 1 l).head? fun x =>
                                                              gdK none x.bool? fun b =>
                                                                gdK none (List.drop 1 l).tail.head? fun x =>
                                                                  gdK none (T.lst? 1 x) fun p =>
                                                                    some
                                                                      [T.nilp, T.nilp, T.bool b_3,
                                                                        T.lst 1 p_3.fst p_3.snd, T.bool b,
                                                                        T.lst 1 p.fst p.snd]
                                      else
                                        gdK none (O (Key.call 27) [AV.t (T.int IntKind.i64 (1 : Int))] [])
                                          fun l =>
                                          gdK none l.head? fun x =>
                                            gdK none
                                              (O (Key.call 120)
                                                [AV.ref (Id.c 0) 0, AV.ref (Id.c 0) 0,
                                                  AV.t x]
                                                [Blk.box [AV.t (T.bool b_1), AV.t (T.lst 1 p_1.fst p_1.snd)]])
                                              fun l =>
                                              gdK none l.head? fun x =>
                                                gdK none (List.drop 1 l).head? fun x =>
                                                  gdK none x.bool? fun b_3 =>
                                                    gdK none (List.drop 1 l).tail.head? fun x =>
                                                      gdK none (T.lst? 1 x) fun p_3 =>
                                                        gdK none
                                                          (O (Key.call 75)
                                                            [AV.ref (Id.c 0) 0,
                                                              AV.ref (Id.c 0) 0,
                                                              AV.t (T.ptr [T.bool b, T.lst 1 p.fst p.snd])]
                                                            [Blk.box
                                                                [AV.t (T.bool b_2),
                                                                  AV.t (T.lst 1 p_2.fst p_2.snd)]])
                                                          fun l =>
                                                          gdK none l.head? fun x =>
                                                            gdK none (List.drop 1 l).head? fun x =>
                                                              gdK none x.bool? fun b =>
                                                                gdK none (List.drop 1 l).tail.head? fun x =>
                                                                  gdK none (T.lst? 1 x) fun p =>
                                                                    some
                                                                      [T.nilp, T.nilp, T.bool b_3,
                                                                        T.lst 1 p_3.fst p_3.snd, T.bool b,
                                                                        T.lst 1 p.fst p.snd]
                                    else
                                      some
                                        [T.nilp, T.nilp, T.bool b_1, T.lst 1 p_1.fst p_1.snd, T.bool b_2,
                                          T.lst 1 p_2.fst p_2.snd]) := by kernel_rfl
theorem e70 (O : Orc) (s : Bool) (y : T) (s2 : Bool) (eq2 : Bool) (d2 : List (List T)) (s3 : Bool) (eq3 : Bool) (d3 : List (List T)) (s4 : Bool) (y4 : T) : stepO PROG ann O (Key.call 119) [AV.ref (Id.c 0) 0, AV.t (T.ptr [T.bool s2, T.lst 1 eq2 d2]), AV.t (T.ptr [T.bool s3, T.lst 1 eq3 d3]), AV.ref (Id.c 1) 0] [Blk.box [AV.t (T.bool s), AV.t y], Blk.box [AV.t (T.bool s4), AV.t y4]] =
  (gdK none
    (O (Key.call 65)
      [AV.t (T.ptr [T.bool s2, T.lst 1 eq2 d2]), AV.t (T.ptr [T.bool s3, T.lst 1 eq3 d3])] [])
    fun l =>
    gdK none l.head? fun x =>
      gdK none (T.int? IntKind.i64 x) fun n =>
        bif decide (n < (0 : Int)) then
          gdK none
            (O (Key.call 63) [AV.ref (Id.c 0) 0, AV.t (T.ptr [T.bool s2, T.lst 1 eq2 d2])]
              [Blk.box [AV.t (T.bool s4), AV.t y4]])
            fun l =>
            gdK none l.head? fun x =>
              gdK none (List.drop 1 l).head? fun x =>
                gdK none x.bool? fun b =>
                  gdK none (List.drop 1 l).tail.head? fun x =>
                    gdK none (T.lst? 1 x) fun p =>
                      gdK none
                        (O (Key.call 64) [AV.ref (Id.c 0) 0, AV.t (T.int IntKind.i64 (0 : Int))]
                          [Blk.box [AV.t (T.bool s), AV.t y]])
                        fun l =>
                        gdK none l.head? fun x =>
                          gdK none (List.drop 1 l).head? fun x =>
                            gdK none x.bool? fun b_1 =>
                              gdK none (List.drop 1 l).tail.head? fun x =>
                                gdK none (T.lst? 1 x) fun p_1 =>
                                  some
                                    [T.nilp, T.nilp, T.bool b_1, T.lst 1 p_1.fst p_1.snd, T.bool b,
                                      T.lst 1 p.fst p.snd]
        else
          bif decide ((↑d2.length : Int) < (3 : Int)) then
            gdK none (O (Key.call 60) [AV.t (T.ptr [T.bool s2, T.lst 1 eq2 d2])] []) fun l =>
              gdK none l.head? fun x =>
                gdK none (T.int? IntKind.u64 x) fun n =>
                  gdK none (O (Key.call 60) [AV.t (T.ptr [T.bool s3, T.lst 1 eq3 d3])] []) fun l =>
                    gdK none l.head? fun x =>
                      gdK none (T.int? IntKind.u64 x) fun n_1 =>
                        gdK none (if n_1 = (0 : Int) then none else some ()) fun x =>
                          gdK none
                            (O (Key.call 61)
                              [AV.ref (Id.c 0) 0,
                                AV.t (T.int IntKind.u64 (IntKind.u64.wrap (n.tdiv n_1)))]
                              [Blk.box [AV.t (T.bool s), AV.t y]])
                            fun l =>
                            gdK none l.head? fun x =>
                              gdK none (List.drop 1 l).head? fun x =>
                                gdK none x.bool? fun b =>
                                  gdK none (List.drop 1 l).tail.head? fun x =>
                                    gdK none (T.lst? 1 x) fun p =>
                                      gdK none (if n_1 = (0 : Int) then none else some ()) fun x =>
                                        gdK none
                                          (O (Key.call 61)
                                            [AV.ref (Id.c 0) 0, AV.t (T.int IntKind.u64 (n.tmod n_1))]
                                            [Blk.box [AV.t (T.bool s4), AV.t y4]])
                                          fun l =>
                                          gdK none l.head? fun x =>
                                            gdK none (List.drop 1 l).head? fun x =>
                                              gdK none x.bool? fun b =>
                                                gdK none (List.drop 1 l).tail.head? fun x =>
                                                  gdK none (T.lst? 1 x) fun p_1 =>
                                                    gdK none
                                                      (O (Key.call 98) [AV.ref (Id.c 0) 0]
                                                        [Blk.box
                                                            [AV.t (T.bool !s2 == s3),
                                                              AV.t (T.lst 1 p.fst p.snd)]])
                                                      fun l =>
                                                      gdK none l.head? fun x =>
                                                        gdK none (List.drop 1 l).head? fun x =>
                                                          gdK none x.bool? fun b =>
                                                            gdK none (List.drop 1 l).tail.head? fun x =>
                                                              gdK none (T.lst? 1 x) fun p =>
                                                                gdK none
                                                                  (O (Key.call 98)
                                                                    [AV.ref (Id.c 0) 0]
                                                                    [Blk.box
                                                                        [AV.t (T.bool s2),
                                                                          AV.t (T.lst 1 p_1.fst p_1.snd)]])
                                                                  fun l =>
                                                                  gdK none l.head? fun x =>
                                                                    gdK none (List.drop 1 l).head? fun x =>
                                                                      gdK none x.bool? fun b_1 =>
                                                                        gdK none (List.drop 1 l).tail.head?
                                                                          fun x =>
                                                                          gdK none (T.lst? 1 x) fun p_2 =>
                                                                            some
                                                                              [T.nilp, T.nilp, T.bool b,
                                                                                T.lst 1 p.fst p.snd, T.bool b_1,
                                                                                T.lst 1 p_2.fst p_2.snd]
          else
            gdK none (O (Key.call 130) [AV.t (T.lst 1 eq2 d2), AV.t (T.lst 1 eq3 d3)] []) fun l =>
              gdK none l.head? fun x =>
                gdK none (T.lst? 1 x) fun p =>
                  gdK none l.tail.head? fun x =>
                    gdK none (T.lst? 1 x) fun p_1 =>
                      gdK none
                        (O (Key.call 98) [AV.ref (Id.c 0) 0]
                          [Blk.box [AV.t (T.bool !s2 == s3), AV.own (Id.c 1)],
                            Blk.sl false 1 p.fst p.snd])
                        fun l =>
                        gdK none l.head? fun x =>
                          gdK none (List.drop 1 l).head? fun x =>
                            gdK none x.bool? fun b =>
                              gdK none (List.drop 1 l).tail.head? fun x =>
                                gdK none (T.lst? 1 x) fun p =>
                                  gdK none
                                    (O (Key.call 98) [AV.ref (Id.c 0) 0]
                                      [Blk.box [AV.t (T.bool s2), AV.own (Id.c 1)],
                                        Blk.sl false 1 p_1.fst p_1.snd])
                                    fun l =>
                                    gdK none l.head? fun x =>
                                      gdK none (List.drop 1 l).head? fun x =>
                                        gdK none x.bool? fun b_1 =>
                                          gdK none (List.drop 1 l).tail.head? fun x =>
                                            gdK none (T.lst? 1 x) fun p_2 =>
                                              some
                                                [T.nilp, T.nilp, T.bool b, T.lst 1 p.fst p.snd, T.bool b_1,
                                                  T.lst 1 p_2.fst p_2.snd]) := by kernel_rfl
theorem e66 (O : Orc) (ex : Bool) (x : List (List T)) (ey : Bool) (y : List (List T)) : stepO PROG ann O (Key.call 105) [AV.t (T.lst 1 ex x), AV.t (T.lst 1 ey y)] [] =
  (bif decide ((↑x.length : Int) < (↑y.length : Int)) then
    gdK none (mkOk (IntKind.i64.wrap ((↑y.length : Int) + (1 : Int))) (IntKind.i64.wrap ((↑y.length : Int) + (1 : Int))))
      fun x_1 =>
      O
        K66n6
        [AV.t (T.lst 1 ey y), AV.t (T.lst 1 ex x), AV.own (Id.c 0),
          AV.t (T.int IntKind.u64 (0 : Int)), AV.t (T.lst 1 ey y), AV.t (T.int IntKind.i64 (↑y.length : Int)),
          AV.t (T.int IntKind.i64 (0 : Int))]
        [Blk.sl false 1 false
            (List.replicate (IntKind.i64.wrap ((↑y.length : Int) + (1 : Int))).toNat [T.int IntKind.u32 (0 : Int)])]
  else
    gdK none (mkOk (IntKind.i64.wrap ((↑x.length : Int) + (1 : Int))) (IntKind.i64.wrap ((↑x.length : Int) + (1 : Int))))
      fun x_1 =>
      O
        K66n6
        [AV.t (T.lst 1 ex x), AV.t (T.lst 1 ey y), AV.own (Id.c 0),
          AV.t (T.int IntKind.u64 (0 : Int)), AV.t (T.lst 1 ex x), AV.t (T.int IntKind.i64 (↑x.length : Int)),
          AV.t (T.int IntKind.i64 (0 : Int))]
        [Blk.sl false 1 false
            (List.replicate (IntKind.i64.wrap ((↑x.length : Int) + (1 : Int))).toNat [T.int IntKind.u32 (0 : Int)])]) := by kernel_rfl
theorem e66n6 (O : Orc) (ev0 : Bool) (v0 : List (List T)) (ev1 : Bool) (v1 : List (List T)) (v6 : Int) (ev20 : Bool) (v20 : List (List T)) (v21 : Int) (v22 : Int) (ec0 : Bool) (c0 : List (List T)) : stepO PROG ann O K66n6 [(AV.t (T.lst 1 ev0 v0)), (AV.t (T.lst 1 ev1 v1)), (AV.own (Id.c 0)), (AV.t (T.int IntKind.u64 v6)), (AV.t (T.lst 1 ev20 v20)), (AV.t (T.int IntKind.i64 v21)), (AV.t (T.int IntKind.i64 v22))] [(Blk.sl false 1 ec0 c0)] =
  (bif decide (v22 < v21) then
    gdK none (if (0 : Int) ≤ v22 ∧ v22 < (↑v20.length : Int) then some () else none) fun x =>
      gdK none v20[v22.toNat]? fun l =>
        gdK none l.head? fun x =>
          gdK none (T.int? IntKind.u32 x) fun n =>
            bif decide (v22 < (↑v1.length : Int)) then
              gdK none (if (0 : Int) ≤ v22 ∧ v22 < (↑v1.length : Int) then some () else none) fun x =>
                gdK none v1[v22.toNat]? fun l =>
                  gdK none l.head? fun x =>
                    gdK none (T.int? IntKind.u32 x) fun n_1 =>
                      gdK none (if (0 : Int) ≤ v22 ∧ v22 < (↑c0.length : Int) then some () else none) fun x =>
                        gdK none
                          (storeIn v22.toNat 0
                            [T.int IntKind.u32
                                (IntKind.u32.wrap
                                  (IntKind.u64.wrap (IntKind.u64.wrap (v6 + IntKind.u64.wrap n) + IntKind.u64.wrap n_1)))]
                            c0)
                          fun l =>
                          O
                            K66n6
                            [AV.t (T.lst 1 ev0 v0), AV.t (T.lst 1 ev1 v1), AV.own (Id.c 0),
                              AV.t
                                (T.int IntKind.u64
                                  ((IntKind.u64.wrap
                                        (IntKind.u64.wrap (v6 + IntKind.u64.wrap n) + IntKind.u64.wrap n_1)).fdiv
                                    ((2 : Int) ^ 32))),
                              AV.t (T.lst 1 ev20 v20), AV.t (T.int IntKind.i64 v21),
                              AV.t (T.int IntKind.i64 (IntKind.i64.wrap (v22 + (1 : Int))))]
                            [Blk.sl false 1 ec0 l]
            else
              gdK none (if (0 : Int) ≤ v22 ∧ v22 < (↑c0.length : Int) then some () else none) fun x =>
                gdK none
                  (storeIn v22.toNat 0
                    [T.int IntKind.u32 (IntKind.u32.wrap (IntKind.u64.wrap (v6 + IntKind.u64.wrap n)))] c0)
                  fun l =>
                  O
                    K66n6
                    [AV.t (T.lst 1 ev0 v0), AV.t (T.lst 1 ev1 v1), AV.own (Id.c 0),
                      AV.t
                        (T.int IntKind.u64 ((IntKind.u64.wrap (v6 + IntKind.u64.wrap n)).fdiv ((2 : Int) ^ 32))),
                      AV.t (T.lst 1 ev20 v20), AV.t (T.int IntKind.i64 v21),
                      AV.t (T.int IntKind.i64 (IntKind.i64.wrap (v22 + (1 : Int))))]
                    [Blk.sl false 1 ec0 l]
  else
    gdK none (if (0 : Int) ≤ (↑v0.length : Int) ∧ (↑v0.length : Int) < (↑c0.length : Int) then some () else none) fun x =>
      gdK none (storeIn (↑v0.length : Int).toNat 0 [T.int IntKind.u32 (IntKind.u32.wrap v6)] c0) fun l =>
        some [T.lst 1 ec0 l]) := by kernel_rfl
theorem e68 (O : Orc) (ex : Bool) (x : List (List T)) (ey : Bool) (y : List (List T)) : stepO PROG ann O (Key.call 106) [AV.t (T.lst 1 ex x), AV.t (T.lst 1 ey y)] [] =
  (gdK none (mkOk (↑x.length : Int) (↑x.length : Int)) fun x_1 =>
    O
      K68n4
      [AV.t (T.lst 1 ey y), AV.own (Id.c 0), AV.t (T.int IntKind.u64 (0 : Int)),
        AV.t (T.lst 1 ex x), AV.t (T.int IntKind.i64 (↑x.length : Int)), AV.t (T.int IntKind.i64 (0 : Int))]
      [Blk.sl false 1 false (List.replicate (↑x.length : Int).toNat [T.int IntKind.u32 (0 : Int)])]) := by kernel_rfl
theorem e68n4 (O : Orc) (ev1 : Bool) (v1 : List (List T)) (v6 : Int) (ev13 : Bool) (v13 : List (List T)) (v14 : Int) (v15 : Int) (ec0 : Bool) (c0 : List (List T)) : stepO PROG ann O K68n4 [(AV.t (T.lst 1 ev1 v1)), (AV.own (Id.c 0)), (AV.t (T.int IntKind.u64 v6)), (AV.t (T.lst 1 ev13 v13)), (AV.t (T.int IntKind.i64 v14)), (AV.t (T.int IntKind.i64 v15))] [(Blk.sl false 1 ec0 c0)] =
  (bif decide (v15 < v14) then
    gdK none (if (0 : Int) ≤ v15 ∧ v15 < (↑v13.length : Int) then some () else none) fun x =>
      gdK none v13[v15.toNat]? fun l =>
        gdK none l.head? fun x =>
          gdK none (T.int? IntKind.u32 x) fun n =>
            bif decide (v15 < (↑v1.length : Int)) then
              gdK none (if (0 : Int) ≤ v15 ∧ v15 < (↑v1.length : Int) then some () else none) fun x =>
                gdK none v1[v15.toNat]? fun l =>
                  gdK none l.head? fun x =>
                    gdK none (T.int? IntKind.u32 x) fun n_1 =>
                      gdK none (if (0 : Int) ≤ v15 ∧ v15 < (↑c0.length : Int) then some () else none) fun x =>
                        gdK none
                          (storeIn v15.toNat 0
                            [T.int IntKind.u32
                                (IntKind.u32.wrap
                                  (IntKind.u64.wrap (IntKind.u64.wrap (IntKind.u64.wrap n - v6) - IntKind.u64.wrap n_1)))]
                            c0)
                          fun l =>
                          O
                            K68n4
                            [AV.t (T.lst 1 ev1 v1), AV.own (Id.c 0),
                              AV.t
                                (T.int IntKind.u64
                                  ((IntKind.u64.wrap
                                        (IntKind.u64.wrap (IntKind.u64.wrap n - v6) - IntKind.u64.wrap n_1)).fdiv
                                    ((2 : Int) ^ 63))),
                              AV.t (T.lst 1 ev13 v13), AV.t (T.int IntKind.i64 v14),
                              AV.t (T.int IntKind.i64 (IntKind.i64.wrap (v15 + (1 : Int))))]
                            [Blk.sl false 1 ec0 l]
            else
              gdK none (if (0 : Int) ≤ v15 ∧ v15 < (↑c0.length : Int) then some () else none) fun x =>
                gdK none
                  (storeIn v15.toNat 0
                    [T.int IntKind.u32 (IntKind.u32.wrap (IntKind.u64.wrap (IntKind.u64.wrap n - v6)))] c0)
                  fun l =>
                  O
                    K68n4
                    [AV.t (T.lst 1 ev1 v1), AV.own (Id.c 0),
                      AV.t
                        (T.int IntKind.u64 ((IntKind.u64.wrap (IntKind.u64.wrap n - v6)).fdiv ((2 : Int) ^ 63))),
                      AV.t (T.lst 1 ev13 v13), AV.t (T.int IntKind.i64 v14),
                      AV.t (T.int IntKind.i64 (IntKind.i64.wrap (v15 + (1 : Int))))]
                    [Blk.sl false 1 ec0 l]
  else some [T.lst 1 ec0 c0]) := by kernel_rfl
theorem e67 (O : Orc) (s2 : Bool) (eq2 : Bool) (d2 : List (List T)) (s3 : Bool) (eq3 : Bool) (d3 : List (List T)) : stepO PROG ann O (Key.call 65) [AV.t (T.ptr [T.bool s2, T.lst 1 eq2 d2]), AV.t (T.ptr [T.bool s3, T.lst 1 eq3 d3])] [] =
  (bif !(↑d2.length : Int) == (↑d3.length : Int) then
    bif decide ((↑d2.length : Int) < (↑d3.length : Int)) then some [T.int IntKind.i64 (-1 : Int)]
    else some [T.int IntKind.i64 (1 : Int)]
  else
    O
      K67n6
      [AV.t (T.ptr [T.bool s2, T.lst 1 eq2 d2]), AV.t (T.ptr [T.bool s3, T.lst 1 eq3 d3]),
        AV.t (T.int IntKind.i64 (IntKind.i64.wrap ((↑d2.length : Int) - (1 : Int))))]
      []) := by kernel_rfl
theorem e67n6 (O : Orc) (v0_0 : Bool) (ev0_1 : Bool) (v0_1 : List (List T)) (v1_0 : Bool) (ev1_1 : Bool) (v1_1 : List (List T)) (v5 : Int) : stepO PROG ann O K67n6 [(AV.t (T.ptr [(T.bool v0_0), (T.lst 1 ev0_1 v0_1)])), (AV.t (T.ptr [(T.bool v1_0), (T.lst 1 ev1_1 v1_1)])), (AV.t (T.int IntKind.i64 v5))] [] =
  (bif decide (v5 ≥ (0 : Int)) then
    gdK none (if (0 : Int) ≤ v5 ∧ v5 < (↑v0_1.length : Int) then some () else none) fun x =>
      gdK none v0_1[v5.toNat]? fun l =>
        gdK none l.head? fun x =>
          gdK none (T.int? IntKind.u32 x) fun n =>
            gdK none (if (0 : Int) ≤ v5 ∧ v5 < (↑v1_1.length : Int) then some () else none) fun x =>
              gdK none v1_1[v5.toNat]? fun l =>
                gdK none l.head? fun x =>
                  gdK none (T.int? IntKind.u32 x) fun n_1 =>
                    bif !n == n_1 then
                      gdK none (if (0 : Int) ≤ v5 ∧ v5 < (↑v0_1.length : Int) then some () else none) fun x =>
                        gdK none v0_1[v5.toNat]? fun l =>
                          gdK none l.head? fun x =>
                            gdK none (T.int? IntKind.u32 x) fun n =>
                              gdK none (if (0 : Int) ≤ v5 ∧ v5 < (↑v1_1.length : Int) then some () else none) fun x =>
                                gdK none v1_1[v5.toNat]? fun l =>
                                  gdK none l.head? fun x =>
                                    gdK none (T.int? IntKind.u32 x) fun n_2 =>
                                      bif decide (n < n_2) then some [T.int IntKind.i64 (-1 : Int)]
                                      else some [T.int IntKind.i64 (1 : Int)]
                    else
                      O
                        K67n6
                        [AV.t (T.ptr [T.bool v0_0, T.lst 1 ev0_1 v0_1]),
                          AV.t (T.ptr [T.bool v1_0, T.lst 1 ev1_1 v1_1]),
                          AV.t (T.int IntKind.i64 (IntKind.i64.wrap (v5 - (1 : Int))))]
                        []
  else some [T.int IntKind.i64 (0 : Int)]) := by kernel_rfl
theorem e39 (O : Orc) (s2 : Bool) (eq2 : Bool) (d2 : List (List T)) : stepO PROG ann O (Key.call 104) [AV.t (T.ptr [T.bool s2, T.lst 1 eq2 d2])] [] =
  (bif s2 then
    gdK none (O (Key.call 60) [AV.t (T.ptr [T.bool s2, T.lst 1 eq2 d2])] []) fun l =>
      gdK none l.head? fun x =>
        gdK none (T.int? IntKind.u64 x) fun n =>
          some [T.int IntKind.i64 (IntKind.i64.wrap ((0 : Int) - IntKind.i64.wrap n))]
  else
    gdK none (O (Key.call 60) [AV.t (T.ptr [T.bool s2, T.lst 1 eq2 d2])] []) fun l =>
      gdK none l.head? fun x => gdK none (T.int? IntKind.u64 x) fun n => some [T.int IntKind.i64 (IntKind.i64.wrap n)]) := by kernel_rfl
theorem e53 (O : Orc) (a0_0 : Bool) (ea0_1 : Bool) (a0_1 : List (List T)) : stepO PROG ann O (Key.call 60) [(AV.t (T.ptr [(T.bool a0_0), (T.lst 1 ea0_1 a0_1)]))] [] =
  (O
    K53n3
    [AV.t (T.ptr [T.bool a0_0, T.lst 1 ea0_1 a0_1]), AV.t (T.int IntKind.u64 (0 : Int)),
      AV.t (T.int IntKind.i64 (IntKind.i64.wrap (mm false (↑a0_1.length : Int) (2 : Int) - (1 : Int))))]
    []) := by kernel_rfl
theorem e53n3 (O : Orc) (v0_0 : Bool) (ev0_1 : Bool) (v0_1 : List (List T)) (v3 : Int) (v4 : Int) : stepO PROG ann O K53n3 [(AV.t (T.ptr [(T.bool v0_0), (T.lst 1 ev0_1 v0_1)])), (AV.t (T.int IntKind.u64 v3)), (AV.t (T.int IntKind.i64 v4))] [] =
  (bif decide (v4 ≥ (0 : Int)) then
    gdK none (if (0 : Int) ≤ v4 ∧ v4 < (↑v0_1.length : Int) then some () else none) fun x =>
      gdK none v0_1[v4.toNat]? fun l =>
        gdK none l.head? fun x =>
          gdK none (T.int? IntKind.u32 x) fun n =>
            O
              K53n3
              [AV.t (T.ptr [T.bool v0_0, T.lst 1 ev0_1 v0_1]),
                AV.t
                  (T.int IntKind.u64
                    (IntKind.u64.wrap
                      (↑(BitVec.ofInt 64 (IntKind.u64.wrap (v3 * (2 : Int) ^ 32)) |||
                              BitVec.ofInt 64 (IntKind.u64.wrap n)).toNat :
                        Int))),
                AV.t (T.int IntKind.i64 (IntKind.i64.wrap (v4 - (1 : Int))))]
              []
  else some [T.int IntKind.u64 v3]) := by kernel_rfl
theorem e69p (O : Orc) (s : Bool) (y : T) (s2 : Bool) (eq2 : Bool) (d2 : List (List T)) (r2 : List T) : stepO PROG ann O (Key.call 63) [AV.ref (Id.c 0) 0, AV.t (T.ptr (T.bool s2 :: T.lst 1 eq2 d2 :: r2))] [Blk.box [AV.t (T.bool s), AV.t y]] =
  (gdK none (small 4 d2.length) fun x => some [T.nilp, T.bool s2, T.lst 1 false d2]) := by kernel_rfl
theorem e69a (O : Orc) (s : Bool) (y : T) (t : Bool) (u : T) (s2 : Bool) (eq2 : Bool) (d2 : List (List T)) : stepO PROG ann O (Key.call 63) [AV.ref (Id.c 0) 0, AV.t (T.ptr [T.bool s2, T.lst 1 eq2 d2])] [Blk.box [AV.t (T.bool s), AV.t y, AV.t (T.bool t), AV.t u]] =
  (gdK none (small 4 d2.length) fun x => some [T.nilp, T.bool s2, T.lst 1 false d2, T.bool t, u]) := by kernel_rfl
theorem e69b (O : Orc) (s : Bool) (y : T) (t : Bool) (u : T) (s2 : Bool) (eq2 : Bool) (d2 : List (List T)) : stepO PROG ann O (Key.call 63) [AV.ref (Id.c 0) 2, AV.t (T.ptr [T.bool s2, T.lst 1 eq2 d2])] [Blk.box [AV.t (T.bool s), AV.t y, AV.t (T.bool t), AV.t u]] =
  (gdK none (small 4 d2.length) fun x => some [T.nilp, T.bool s, y, T.bool s2, T.lst 1 false d2]) := by kernel_rfl
theorem e69z (O : Orc) (s : Bool) (e : Bool) (d : List (List T)) : stepO PROG ann O (Key.call 63) [AV.ref (Id.c 0) 0, AV.ref (Id.c 0) 0] [Blk.box [AV.t (T.bool s), AV.t (T.lst 1 e d)]] =
  (gdK none (small 4 d.length) fun x => some [T.nilp, T.bool s, T.lst 1 false d]) := by kernel_rfl
theorem e50p (O : Orc) (s : Bool) (y : T) (s2 : Bool) (eq2 : Bool) (d2 : List (List T)) (r2 : List T) : stepO PROG ann O (Key.call 103) [AV.ref (Id.c 0) 0, AV.t (T.ptr (T.bool s2 :: T.lst 1 eq2 d2 :: r2))] [Blk.box [AV.t (T.bool s), AV.t y]] =
  (gdK none
    (O (Key.call 63) [AV.ref (Id.c 0) 0, AV.t (T.ptr (T.bool s2 :: T.lst 1 eq2 d2 :: r2))]
      [Blk.box [AV.t (T.bool s), AV.t y]])
    fun l =>
    gdK none l.head? fun x =>
      gdK none (List.drop 1 l).head? fun x =>
        gdK none x.bool? fun b =>
          gdK none (List.drop 1 l).tail.head? fun x =>
            gdK none (T.lst? 1 x) fun p =>
              some
                [T.nilp, T.bool (bif !b then decide ((↑p.snd.length : Int) > (0 : Int)) else false),
                  T.lst 1 p.fst p.snd]) := by kernel_rfl
theorem e50z (O : Orc) (s : Bool) (e : Bool) (d : List (List T)) : stepO PROG ann O (Key.call 103) [AV.ref (Id.c 0) 0, AV.ref (Id.c 0) 0] [Blk.box [AV.t (T.bool s), AV.t (T.lst 1 e d)]] =
  (gdK none
    (O (Key.call 63) [AV.ref (Id.c 0) 0, AV.ref (Id.c 0) 0]
      [Blk.box [AV.t (T.bool s), AV.t (T.lst 1 e d)]])
    fun l =>
    gdK none l.head? fun x =>
      gdK none (List.drop 1 l).head? fun x =>
        gdK none x.bool? fun b =>
          gdK none (List.drop 1 l).tail.head? fun x =>
            gdK none (T.lst? 1 x) fun p =>
              some
                [T.nilp, T.bool (bif !b then decide ((↑p.snd.length : Int) > (0 : Int)) else false),
                  T.lst 1 p.fst p.snd]) := by kernel_rfl
theorem e71 (O : Orc) (s : Bool) (y : T) (s2 : Bool) (eq2 : Bool) (d2 : List (List T)) : stepO PROG ann O (Key.call 58) [AV.ref (Id.c 0) 0, AV.t (T.ptr [T.bool s2, T.lst 1 eq2 d2])] [Blk.box [AV.t (T.bool s), AV.t y]] =
  (gdK none
    (O (Key.call 63) [AV.ref (Id.c 0) 0, AV.t (T.ptr [T.bool s2, T.lst 1 eq2 d2])]
      [Blk.box [AV.t (T.bool s), AV.t y]])
    fun l =>
    gdK none l.head? fun x =>
      gdK none (List.drop 1 l).head? fun x =>
        gdK none x.bool? fun b =>
          gdK none (List.drop 1 l).tail.head? fun x =>
            gdK none (T.lst? 1 x) fun p => some [T.nilp, T.bool false, T.lst 1 p.fst p.snd]) := by kernel_rfl
theorem e72 (O : Orc) (s2 : Bool) (eq2 : Bool) (d2 : List (List T)) (r2 : List T) : stepO PROG ann O (Key.call 59) [AV.t (T.ptr (T.bool s2 :: T.lst 1 eq2 d2 :: r2))] [] =
  (bif (↑d2.length : Int) == (0 : Int) then some [T.int IntKind.i64 (0 : Int)]
  else bif s2 then some [T.int IntKind.i64 (-1 : Int)] else some [T.int IntKind.i64 (1 : Int)]) := by kernel_rfl
theorem e73 (O : Orc) (s : Bool) (y : T) (s2 : Bool) (eq2 : Bool) (d2 : List (List T)) (s3 : Bool) (eq3 : Bool) (d3 : List (List T)) : stepO PROG ann O (Key.call 62) [AV.ref (Id.c 0) 0, AV.t (T.ptr [T.bool s2, T.lst 1 eq2 d2]), AV.t (T.ptr [T.bool s3, T.lst 1 eq3 d3])] [Blk.box [AV.t (T.bool s), AV.t y]] =
  (gdK none
    (O (Key.call 99)
      [AV.ref (Id.c 0) 0, AV.t (T.ptr [T.bool s2, T.lst 1 eq2 d2]),
        AV.t (T.ptr [T.bool s3, T.lst 1 eq3 d3]), AV.ref (Id.c 1) 0]
      [Blk.box [AV.t (T.bool false), AV.t (T.emp true)], Blk.box [AV.t (T.bool s), AV.t y]])
    fun l =>
    gdK none l.head? fun x =>
      gdK none l.tail.head? fun x =>
        gdK none (List.drop 2 l).head? fun x =>
          gdK none x.bool? fun b =>
            gdK none (List.drop 2 l).tail.head? fun x =>
              gdK none (T.lst? 1 x) fun p =>
                gdK none (List.drop 2 (List.drop 2 l)).head? fun x =>
                  gdK none x.bool? fun b =>
                    gdK none (List.drop 2 (List.drop 2 l)).tail.head? fun x =>
                      gdK none (T.lst? 1 x) fun p => some [T.nilp, T.bool b, T.lst 1 p.fst p.snd]) := by kernel_rfl
theorem e77 (O : Orc) (s : Bool) (y : T) (s2 : Bool) (eq2 : Bool) (d2 : List (List T)) (s3 : Bool) (eq3 : Bool) (d3 : List (List T)) : stepO PROG ann O (Key.call 102) [AV.ref (Id.c 0) 0, AV.t (T.ptr [T.bool s2, T.lst 1 eq2 d2]), AV.t (T.ptr [T.bool s3, T.lst 1 eq3 d3])] [Blk.box [AV.t (T.bool s), AV.t y]] =
  (gdK none
    (O (Key.call 119)
      [AV.ref (Id.c 0) 0, AV.t (T.ptr [T.bool s2, T.lst 1 eq2 d2]),
        AV.t (T.ptr [T.bool s3, T.lst 1 eq3 d3]), AV.ref (Id.c 1) 0]
      [Blk.box [AV.t (T.bool s), AV.t y], Blk.box [AV.t (T.bool false), AV.t (T.emp true)]])
    fun l =>
    gdK none l.head? fun x =>
      gdK none l.tail.head? fun x =>
        gdK none (List.drop 2 l).head? fun x =>
          gdK none x.bool? fun b =>
            gdK none (List.drop 2 l).tail.head? fun x =>
              gdK none (T.lst? 1 x) fun p =>
                gdK none (List.drop 2 (List.drop 2 l)).head? fun x =>
                  gdK none x.bool? fun b_1 =>
                    gdK none (List.drop 2 (List.drop 2 l)).tail.head? fun x =>
                      gdK none (T.lst? 1 x) fun p_1 => some [T.nilp, T.bool b, T.lst 1 p.fst p.snd]) := by kernel_rfl
theorem e55 (O : Orc) (s2 : Bool) (eq2 : Bool) (d2 : List (List T)) (s3 : Bool) (eq3 : Bool) (d3 : List (List T)) : stepO PROG ann O (Key.call 28) [AV.t (T.ptr [T.bool s2, T.lst 1 eq2 d2]), AV.t (T.ptr [T.bool s3, T.lst 1 eq3 d3])] [] =
  (bif !s2 == s3 then bif s2 then some [T.int IntKind.i64 (-1 : Int)] else some [T.int IntKind.i64 (1 : Int)]
  else
    bif s2 then
      gdK none
        (O (Key.call 65)
          [AV.t (T.ptr [T.bool s3, T.lst 1 eq3 d3]), AV.t (T.ptr [T.bool s2, T.lst 1 eq2 d2])] [])
        fun l => gdK none l.head? fun x => gdK none (T.int? IntKind.i64 x) fun n => some [T.int IntKind.i64 n]
    else
      gdK none
        (O (Key.call 65)
          [AV.t (T.ptr [T.bool s2, T.lst 1 eq2 d2]), AV.t (T.ptr [T.bool s3, T.lst 1 eq3 d3])] [])
        fun l => gdK none l.head? fun x => gdK none (T.int? IntKind.i64 x) fun n => some [T.int IntKind.i64 n]) := by kernel_rfl
theorem e54 (O : Orc) (s : Bool) (y : T) (s2 : Bool) (eq2 : Bool) (d2 : List (List T)) (s3 : Bool) (eq3 : Bool) (d3 : List (List T)) : stepO PROG ann O (Key.call 26) [AV.ref (Id.c 0) 0, AV.t T.nilp, AV.t T.nilp, AV.t (T.ptr [T.bool s2, T.lst 1 eq2 d2]), AV.t (T.ptr [T.bool s3, T.lst 1 eq3 d3])] [Blk.box [AV.t (T.bool s), AV.t y]] =
  (gdK none
    (O (Key.call 58) [AV.ref (Id.c 0) 0, AV.t (T.ptr [T.bool s2, T.lst 1 eq2 d2])]
      [Blk.box [AV.t (T.bool false), AV.t (T.emp true)]])
    fun l =>
    gdK none l.head? fun x =>
      gdK none (List.drop 1 l).head? fun x =>
        gdK none x.bool? fun b =>
          gdK none (List.drop 1 l).tail.head? fun x =>
            gdK none (T.lst? 1 x) fun p =>
              gdK none
                (O (Key.call 58)
                  [AV.ref (Id.c 0) 0, AV.t (T.ptr [T.bool s3, T.lst 1 eq3 d3])]
                  [Blk.box [AV.t (T.bool false), AV.t (T.emp true)]])
                fun l =>
                gdK none l.head? fun x =>
                  gdK none (List.drop 1 l).head? fun x =>
                    gdK none x.bool? fun b_1 =>
                      gdK none (List.drop 1 l).tail.head? fun x =>
                        gdK none (T.lst? 1 x) fun p_1 =>
                          O
                            K54n2m1
                            [AV.ref (Id.c 0) 0, AV.t (T.ptr [T.bool b, T.lst 1 p.fst p.snd]),
                              AV.t (T.ptr [T.bool b_1, T.lst 1 p_1.fst p_1.snd])]
                            [Blk.box [AV.t (T.bool s), AV.t y]]) := by kernel_rfl
theorem e54n2 (O : Orc) (v11_0 : Bool) (ev11_1 : Bool) (v11_1 : List (List T)) (v12_0 : Bool) (ev12_1 : Bool) (v12_1 : List (List T)) (c0_0 : Bool) (c0_1 : T) : stepO PROG ann O K54n2m1 [(AV.ref (Id.c 0) 0), (AV.t (T.ptr [(T.bool v11_0), (T.lst 1 ev11_1 v11_1)])), (AV.t (T.ptr [(T.bool v12_0), (T.lst 1 ev12_1 v12_1)]))] [(Blk.box [(AV.t (T.bool c0_0)), (AV.t c0_1)])] =
  (gdK none (O (Key.call 59) [AV.t (T.ptr [T.bool v12_0, T.lst 1 ev12_1 v12_1])] []) fun l =>
    gdK none l.head? fun x =>
      gdK none (T.int? IntKind.i64 x) fun n =>
        bif !n == (0 : Int) then
          bif
              bif decide ((↑v11_1.length : Int) < (3 : Int)) then decide ((↑v12_1.length : Int) < (3 : Int))
              else false then
            gdK none (O (Key.call 60) [AV.t (T.ptr [T.bool v11_0, T.lst 1 ev11_1 v11_1])] []) fun l =>
              gdK none l.head? fun x =>
                gdK none (T.int? IntKind.u64 x) fun n =>
                  gdK none (O (Key.call 60) [AV.t (T.ptr [T.bool v12_0, T.lst 1 ev12_1 v12_1])] [])
                    fun l =>
                    gdK none l.head? fun x =>
                      gdK none (T.int? IntKind.u64 x) fun n_1 =>
                        O
                          K54n5m1
                          [AV.ref (Id.c 0) 0, AV.t (T.int IntKind.u64 n), AV.t (T.int IntKind.u64 n_1)]
                          [Blk.box [AV.t (T.bool c0_0), AV.t c0_1]]
          else
            gdK none
              (O (Key.call 62)
                [AV.ref (Id.c 0) 0, AV.t (T.ptr [T.bool v11_0, T.lst 1 ev11_1 v11_1]),
                  AV.t (T.ptr [T.bool v12_0, T.lst 1 ev12_1 v12_1])]
                [Blk.box [AV.t (T.bool false), AV.t (T.emp true)]])
              fun l =>
              gdK none l.head? fun x =>
                gdK none (List.drop 1 l).head? fun x =>
                  gdK none x.bool? fun b =>
                    gdK none (List.drop 1 l).tail.head? fun x =>
                      gdK none (T.lst? 1 x) fun p =>
                        O
                          K54n2m1
                          [AV.ref (Id.c 0) 0, AV.t (T.ptr [T.bool v12_0, T.lst 1 ev12_1 v12_1]),
                            AV.t (T.ptr [T.bool b, T.lst 1 p.fst p.snd])]
                          [Blk.box [AV.t (T.bool c0_0), AV.t c0_1]]
        else
          gdK none
            (O (Key.call 63)
              [AV.ref (Id.c 0) 0, AV.t (T.ptr [T.bool v11_0, T.lst 1 ev11_1 v11_1])]
              [Blk.box [AV.t (T.bool c0_0), AV.t c0_1]])
            fun l =>
            gdK none l.head? fun x =>
              gdK none (List.drop 1 l).head? fun x =>
                gdK none x.bool? fun b =>
                  gdK none (List.drop 1 l).tail.head? fun x =>
                    gdK none (T.lst? 1 x) fun p => some [T.nilp, T.bool b, T.lst 1 p.fst p.snd]) := by kernel_rfl
theorem e54n5 (O : Orc) (v13 : Int) (v14 : Int) (c0_0 : Bool) (c0_1 : T) : stepO PROG ann O K54n5m1 [(AV.ref (Id.c 0) 0), (AV.t (T.int IntKind.u64 v13)), (AV.t (T.int IntKind.u64 v14))] [(Blk.box [(AV.t (T.bool c0_0)), (AV.t c0_1)])] =
  (bif decide (v14 > (0 : Int)) then
    gdK none (if v14 = (0 : Int) then none else some ()) fun x =>
      O
        K54n5m1
        [AV.ref (Id.c 0) 0, AV.t (T.int IntKind.u64 v14), AV.t (T.int IntKind.u64 (v13.tmod v14))]
        [Blk.box [AV.t (T.bool c0_0), AV.t c0_1]]
  else
    gdK none
      (O (Key.call 61) [AV.ref (Id.c 0) 0, AV.t (T.int IntKind.u64 v13)]
        [Blk.box [AV.t (T.bool c0_0), AV.t c0_1]])
      fun l =>
      gdK none l.head? fun x =>
        gdK none (List.drop 1 l).head? fun x =>
          gdK none x.bool? fun b =>
            gdK none (List.drop 1 l).tail.head? fun x =>
              gdK none (T.lst? 1 x) fun p => some [T.nilp, T.bool b, T.lst 1 p.fst p.snd]) := by kernel_rfl
theorem e61 (O : Orc) (s : Bool) (y : T) (t : Bool) (u : T) (s2 : Bool) (eq2 : Bool) (d2 : List (List T)) (s3 : Bool) (eq3 : Bool) (d3 : List (List T)) : stepO PROG ann O (Key.call 69) [AV.ref (Id.c 0) 0, AV.t (T.ptr [T.bool s2, T.lst 1 eq2 d2]), AV.t (T.ptr [T.bool s3, T.lst 1 eq3 d3])] [Blk.box [AV.t (T.bool s), AV.t y, AV.t (T.bool t), AV.t u]] =
  (gdK none
    (O (Key.call 26)
      [AV.ref (Id.c 0) 0, AV.t T.nilp, AV.t T.nilp, AV.t (T.ptr [T.bool s2, T.lst 1 eq2 d2]),
        AV.t (T.ptr [T.bool s3, T.lst 1 eq3 d3])]
      [Blk.box [AV.t (T.bool false), AV.t (T.emp true)]])
    fun l =>
    gdK none l.head? fun x =>
      gdK none (List.drop 1 l).head? fun x =>
        gdK none x.bool? fun b =>
          gdK none (List.drop 1 l).tail.head? fun x =>
            gdK none (T.lst? 1 x) fun p =>
              gdK none
                (O (Key.call 102)
                  [AV.ref (Id.c 0) 0, AV.t (T.ptr [T.bool s2, T.lst 1 eq2 d2]),
                    AV.t (T.ptr [T.bool b, T.lst 1 p.fst p.snd])]
                  [Blk.box [AV.t (T.bool false), AV.t (T.emp true)]])
                fun l =>
                gdK none l.head? fun x =>
                  gdK none (List.drop 1 l).head? fun x =>
                    gdK none x.bool? fun b_1 =>
                      gdK none (List.drop 1 l).tail.head? fun x =>
                        gdK none (T.lst? 1 x) fun p_1 =>
                          gdK none
                            (O (Key.call 102)
                              [AV.ref (Id.c 0) 0, AV.t (T.ptr [T.bool s3, T.lst 1 eq3 d3]),
                                AV.t (T.ptr [T.bool b, T.lst 1 p.fst p.snd])]
                              [Blk.box [AV.t (T.bool false), AV.t (T.emp true)]])
                            fun l =>
                            gdK none l.head? fun x =>
                              gdK none (List.drop 1 l).head? fun x =>
                                gdK none x.bool? fun b =>
                                  gdK none (List.drop 1 l).tail.head? fun x =>
                                    gdK none (T.lst? 1 x) fun p =>
                                      bif b then
                                        gdK none
                                          (O (Key.call 103)
                                            [AV.ref (Id.c 0) 0, AV.ref (Id.c 0) 0]
                                            [Blk.box [AV.t (T.bool b_1), AV.t (T.lst 1 p_1.fst p_1.snd)]])
                                          fun l =>
                                          gdK none l.head? fun x =>
                                            gdK none (List.drop 1 l).head? fun x =>
                                              gdK none x.bool? fun b_2 =>
                                                gdK none (List.drop 1 l).tail.head? fun x =>
                                                  gdK none (T.lst? 1 x) fun p_2 =>
                                                    gdK none
                                                      (O (Key.call 103)
                                                        [AV.ref (Id.c 0) 0,
                                                          AV.ref (Id.c 0) 0]
                                                        [Blk.box [AV.t (T.bool b), AV.t (T.lst 1 p.fst p.snd)]])
                                                      fun l =>
                                                      gdK none l.head? fun x =>
                                                        gdK none (List.drop 1 l).head? fun x =>
                                                          gdK none x.bool? fun b =>
                                                            gdK none (List.drop 1 l).tail.head? fun x =>
                                                              gdK none (T.lst? 1 x) fun p =>
                                                                gdK none
                                                                  (O (Key.call 63)
                                                                    [AV.ref (Id.c 0) 0,
                                                                      AV.t
                                                                        (T.ptr
                                                                          [T.bool b_2, T.lst 1 p_2.fst p_2.snd])]
                                                                    [Blk.box
                                                                        [AV.t (T.bool s), AV.t y, AV.t (T.bool t),
                                                                          AV.t u]])
                                                                  fun l =>
                                                                  gdK none l.head? fun x =>
                                                                    gdK none (List.drop 1 l).head? fun x =>
                                                                      gdK none x.bool? fun b_3 =>
                                                                        gdK none (List.drop 1 l).tail.head?
                                                                          fun x =>
                                                                          gdK none (T.lst? 1 x) fun p_3 =>
                                                                            gdK none
                                                                              (List.drop 1 l).tail.tail.head?
                                                                              fun x =>
                                                                              gdK none x.bool? fun b_4 =>
                                                                                gdK none
                                                                                  (List.drop 1
                                                                                            l).tail.tail.tail.head?
                                                                                  fun x =>
                                                                                  gdK none (T.lst? 1 x) fun p_4 =>
                                                                                    gdK none
                                                                                      (O (Key.call 63)
                                                                                        [AV.ref (Id.c 0)
                                                                                            2,
                                                                                          AV.t
                                                                                            (T.ptr
                                                                                              [T.bool b,
                                                                                                T.lst 1 p.fst
                                                                                                  p.snd])]
                                                                                        [Blk.box
                                                                                            [AV.t (T.bool b_3),
                                                                                              AV.t
                                                                                                (T.lst 1 p_3.fst
                                                                                                  p_3.snd),
                                                                                              AV.t (T.bool b_4),
                                                                                              AV.t
                                                                                                (T.lst 1 p_4.fst
                                                                                                  p_4.snd)]])
                                                                                      fun l =>
                                                                                      gdK none l.head? fun x =>
                                                                                        gdK none
                                                                                          (List.drop 1 l).head?
                                                                                          fun x =>
                                                                                          gdK none x.bool? fun b =>
                                                                                            gdK none
                                                                                              (List.drop 1
                                                                                                    l).tail.head?
                                                                                              fun x =>
                                                                                              gdK none
                                                                                                (T.lst? 1 x)
                                                                                                fun p =>
                                                                                                gdK none
                                                                                                  (List.drop 1
                                                                                                          l).tail.tail.head?
                                                                                                  fun x =>
                                                                                                  gdK none x.bool?
                                                                                                    fun b_5 =>
                                                                                                    gdK none
                                                                                                      (List.drop 1
                                                                                                                l).tail.tail.tail.head?
                                                                                                      fun x =>
                                                                                                      gdK none
                                                                                                        (T.lst? 1
                                                                                                          x)
                                                                                                        fun p_5 =>
                                                                                                        some
                                                                                                          [T.nilp,
                                                                                                            T.bool b,
                                                                                                            T.lst
                                                                                                              1
                                                                                                              p.fst p.snd,
                                                                                                            T.bool b_5,
                                                                                                            T.lst
                                                                                                              1
                                                                                                              p_5.fst
                                                                                                              p_5.snd]
                                      else
                                        gdK none
                                          (O (Key.call 63)
                                            [AV.ref (Id.c 0) 0,
                                              AV.t (T.ptr [T.bool b_1, T.lst 1 p_1.fst p_1.snd])]
                                            [Blk.box [AV.t (T.bool s), AV.t y, AV.t (T.bool t), AV.t u]])
                                          fun l =>
                                          gdK none l.head? fun x =>
                                            gdK none (List.drop 1 l).head? fun x =>
                                              gdK none x.bool? fun b_2 =>
                                                gdK none (List.drop 1 l).tail.head? fun x =>
                                                  gdK none (T.lst? 1 x) fun p_2 =>
                                                    gdK none (List.drop 1 l).tail.tail.head? fun x =>
                                                      gdK none x.bool? fun b_3 =>
                                                        gdK none (List.drop 1 l).tail.tail.tail.head? fun x =>
                                                          gdK none (T.lst? 1 x) fun p_3 =>
                                                            gdK none
                                                              (O (Key.call 63)
                                                                [AV.ref (Id.c 0) 2,
                                                                  AV.t (T.ptr [T.bool b, T.lst 1 p.fst p.snd])]
                                                                [Blk.box
                                                                    [AV.t (T.bool b_2),
                                                                      AV.t (T.lst 1 p_2.fst p_2.snd),
                                                                      AV.t (T.bool b_3),
                                                                      AV.t (T.lst 1 p_3.fst p_3.snd)]])
                                                              fun l =>
                                                              gdK none l.head? fun x =>
                                                                gdK none (List.drop 1 l).head? fun x =>
                                                                  gdK none x.bool? fun b =>
                                                                    gdK none (List.drop 1 l).tail.head? fun x =>
                                                                      gdK none (T.lst? 1 x) fun p =>
                                                                        gdK none (List.drop 1 l).tail.tail.head?
                                                                          fun x =>
                                                                          gdK none x.bool? fun b_4 =>
                                                                            gdK none
                                                                              (List.drop 1 l).tail.tail.tail.head?
                                                                              fun x =>
                                                                              gdK none (T.lst? 1 x) fun p_4 =>
                                                                                some
                                                                                  [T.nilp, T.bool b,
                                                                                    T.lst 1 p.fst p.snd,
                                                                                    T.bool b_4,
                                                                                    T.lst 1 p_4.fst p_4.snd]) := by kernel_rfl
theorem e74 (O : Orc) (s2 : Bool) (eq2 : Bool) (d2 : List (List T)) (t2 : Bool) (f2 : Bool) (g2 : List (List T)) : stepO PROG ann O (Key.call 73) [AV.t (T.ptr [T.bool s2, T.lst 1 eq2 d2, T.bool t2, T.lst 1 f2 g2])] [] =
  (gdK none
    (O (Key.call 63)
      [AV.ref (Id.c 0) 0,
        AV.t (T.ptr [T.bool s2, T.lst 1 eq2 d2, T.bool t2, T.lst 1 f2 g2])]
      [Blk.box [AV.t (T.bool false), AV.t (T.emp true)]])
    fun l =>
    gdK none l.head? fun x =>
      gdK none (List.drop 1 l).head? fun x =>
        gdK none x.bool? fun b =>
          gdK none (List.drop 1 l).tail.head? fun x =>
            gdK none (T.lst? 1 x) fun p => some [T.ptr [T.bool b, T.lst 1 p.fst p.snd]]) := by kernel_rfl
theorem e75 (O : Orc) (s2 : Bool) (eq2 : Bool) (d2 : List (List T)) (t2 : Bool) (f2 : Bool) (g2 : List (List T)) : stepO PROG ann O (Key.call 74) [AV.t (T.ptr [T.bool s2, T.lst 1 eq2 d2, T.bool t2, T.lst 1 f2 g2])] [] =
  (gdK none (O (Key.call 59) [AV.t (T.ptr [T.bool t2, T.lst 1 f2 g2])] []) fun l =>
    gdK none l.head? fun x =>
      gdK none (T.int? IntKind.i64 x) fun n =>
        bif n == (0 : Int) then
          gdK none (O (Key.call 27) [AV.t (T.int IntKind.i64 (1 : Int))] []) fun l =>
            gdK none l.head? fun x => some [x]
        else
          gdK none
            (O (Key.call 63) [AV.ref (Id.c 0) 0, AV.t (T.ptr [T.bool t2, T.lst 1 f2 g2])]
              [Blk.box [AV.t (T.bool false), AV.t (T.emp true)]])
            fun l =>
            gdK none l.head? fun x =>
              gdK none (List.drop 1 l).head? fun x =>
                gdK none x.bool? fun b =>
                  gdK none (List.drop 1 l).tail.head? fun x =>
                    gdK none (T.lst? 1 x) fun p => some [T.ptr [T.bool b, T.lst 1 p.fst p.snd]]) := by kernel_rfl
theorem e60 (O : Orc) (s2 : Bool) (eq2 : Bool) (d2 : List (List T)) (t2 : Bool) (f2 : Bool) (g2 : List (List T)) : stepO PROG ann O (Key.call 76) [AV.t (T.ptr [T.bool s2, T.lst 1 eq2 d2, T.bool t2, T.lst 1 f2 g2])] [] =
  (gdK none
    (O (Key.call 59) [AV.t (T.ptr [T.bool s2, T.lst 1 eq2 d2, T.bool t2, T.lst 1 f2 g2])] [])
    fun l => gdK none l.head? fun x => gdK none (T.int? IntKind.i64 x) fun n => some [T.int IntKind.i64 n]) := by kernel_rfl
theorem e56 (O : Orc) (s : Bool) (y : T) (t : Bool) (u : T) (s2 : Bool) (eq2 : Bool) (d2 : List (List T)) (t2 : Bool) (f2 : Bool) (g2 : List (List T)) (s3 : Bool) (eq3 : Bool) (d3 : List (List T)) (t3 : Bool) (f3 : Bool) (g3 : List (List T)) : stepO PROG ann O (Key.call 36) [AV.ref (Id.c 0) 0, AV.t (T.ptr [T.bool s2, T.lst 1 eq2 d2, T.bool t2, T.lst 1 f2 g2]), AV.t (T.ptr [T.bool s3, T.lst 1 eq3 d3, T.bool t3, T.lst 1 f3 g3])] [Blk.box [AV.t (T.bool s), AV.t y, AV.t (T.bool t), AV.t u]] =
  (gdK none
    (O (Key.call 73) [AV.t (T.ptr [T.bool s2, T.lst 1 eq2 d2, T.bool t2, T.lst 1 f2 g2])] [])
    fun l =>
    gdK none l.head? fun x =>
      gdK none
        (O (Key.call 73) [AV.t (T.ptr [T.bool s3, T.lst 1 eq3 d3, T.bool t3, T.lst 1 f3 g3])] [])
        fun l =>
        gdK none l.head? fun x_1 =>
          gdK none
            (O (Key.call 72) [AV.ref (Id.c 0) 0, AV.t x, AV.t x_1]
              [Blk.box [AV.t (T.bool false), AV.t (T.emp true)]])
            fun l =>
            gdK none l.head? fun x =>
              gdK none (List.drop 1 l).head? fun x =>
                gdK none x.bool? fun b =>
                  gdK none (List.drop 1 l).tail.head? fun x =>
                    gdK none (T.lst? 1 x) fun p =>
                      gdK none
                        (O (Key.call 74)
                          [AV.t (T.ptr [T.bool s2, T.lst 1 eq2 d2, T.bool t2, T.lst 1 f2 g2])] [])
                        fun l =>
                        gdK none l.head? fun x =>
                          gdK none
                            (O (Key.call 74)
                              [AV.t (T.ptr [T.bool s3, T.lst 1 eq3 d3, T.bool t3, T.lst 1 f3 g3])] [])
                            fun l =>
                            gdK none l.head? fun x_2 =>
                              gdK none
                                (O (Key.call 72) [AV.ref (Id.c 0) 0, AV.t x, AV.t x_2]
                                  [Blk.box [AV.t (T.bool false), AV.t (T.emp true)]])
                                fun l =>
                                gdK none l.head? fun x =>
                                  gdK none (List.drop 1 l).head? fun x =>
                                    gdK none x.bool? fun b_1 =>
                                      gdK none (List.drop 1 l).tail.head? fun x =>
                                        gdK none (T.lst? 1 x) fun p_1 =>
                                          gdK none
                                            (O (Key.call 69)
                                              [AV.ref (Id.c 0) 0,
                                                AV.t (T.ptr [T.bool b, T.lst 1 p.fst p.snd]),
                                                AV.t (T.ptr [T.bool b_1, T.lst 1 p_1.fst p_1.snd])]
                                              [Blk.box [AV.t (T.bool s), AV.t y, AV.t (T.bool t), AV.t u]])
                                            fun l =>
                                            gdK none l.head? fun x =>
                                              gdK none (List.drop 1 l).head? fun x =>
                                                gdK none x.bool? fun b =>
                                                  gdK none (List.drop 1 l).tail.head? fun x =>
                                                    gdK none (T.lst? 1 x) fun p =>
                                                      gdK none (List.drop 1 l).tail.tail.head? fun x =>
                                                        gdK none x.bool? fun b_2 =>
                                                          gdK none (List.drop 1 l).tail.tail.tail.head? fun x =>
                                                            gdK none (T.lst? 1 x) fun p_2 =>
                                                              some
                                                                [T.nilp, T.bool b, T.lst 1 p.fst p.snd,
                                                                  T.bool b_2, T.lst 1 p_2.fst p_2.snd]) := by kernel_rfl
theorem e58 (O : Orc) (s : Bool) (y : T) (t : Bool) (u : T) (s2 : Bool) (eq2 : Bool) (d2 : List (List T)) (t2 : Bool) (f2 : Bool) (g2 : List (List T)) (s3 : Bool) (eq3 : Bool) (d3 : List (List T)) (t3 : Bool) (f3 : Bool) (g3 : List (List T)) : stepO PROG ann O (Key.call 34) [AV.ref (Id.c 0) 0, AV.t (T.ptr [T.bool s2, T.lst 1 eq2 d2, T.bool t2, T.lst 1 f2 g2]), AV.t (T.ptr [T.bool s3, T.lst 1 eq3 d3, T.bool t3, T.lst 1 f3 g3])] [Blk.box [AV.t (T.bool s), AV.t y, AV.t (T.bool t), AV.t u]] =
  (gdK none
    (O (Key.call 73) [AV.t (T.ptr [T.bool s2, T.lst 1 eq2 d2, T.bool t2, T.lst 1 f2 g2])] [])
    fun l =>
    gdK none l.head? fun x =>
      gdK none
        (O (Key.call 74) [AV.t (T.ptr [T.bool s3, T.lst 1 eq3 d3, T.bool t3, T.lst 1 f3 g3])] [])
        fun l =>
        gdK none l.head? fun x_1 =>
          gdK none
            (O (Key.call 72) [AV.ref (Id.c 0) 0, AV.t x, AV.t x_1]
              [Blk.box [AV.t (T.bool false), AV.t (T.emp true)]])
            fun l =>
            gdK none l.head? fun x =>
              gdK none (List.drop 1 l).head? fun x =>
                gdK none x.bool? fun b =>
                  gdK none (List.drop 1 l).tail.head? fun x =>
                    gdK none (T.lst? 1 x) fun p =>
                      gdK none
                        (O (Key.call 73)
                          [AV.t (T.ptr [T.bool s3, T.lst 1 eq3 d3, T.bool t3, T.lst 1 f3 g3])] [])
                        fun l =>
                        gdK none l.head? fun x =>
                          gdK none
                            (O (Key.call 74)
                              [AV.t (T.ptr [T.bool s2, T.lst 1 eq2 d2, T.bool t2, T.lst 1 f2 g2])] [])
                            fun l =>
                            gdK none l.head? fun x_2 =>
                              gdK none
                                (O (Key.call 72) [AV.ref (Id.c 0) 0, AV.t x, AV.t x_2]
                                  [Blk.box [AV.t (T.bool false), AV.t (T.emp true)]])
                                fun l =>
                                gdK none l.head? fun x =>
                                  gdK none (List.drop 1 l).head? fun x =>
                                    gdK none x.bool? fun b_1 =>
                                      gdK none (List.drop 1 l).tail.head? fun x =>
                                        gdK none (T.lst? 1 x) fun p_1 =>
                                          gdK none
                                            (O (Key.call 75)
                                              [AV.ref (Id.c 0) 0, AV.ref (Id.c 0) 0,
                                                AV.t (T.ptr [T.bool b_1, T.lst 1 p_1.fst p_1.snd])]
                                              [Blk.box [AV.t (T.bool b), AV.t (T.lst 1 p.fst p.snd)]])
                                            fun l =>
                                            gdK none l.head? fun x =>
                                              gdK none (List.drop 1 l).head? fun x =>
                                                gdK none x.bool? fun b =>
                                                  gdK none (List.drop 1 l).tail.head? fun x =>
                                                    gdK none (T.lst? 1 x) fun p =>
                                                      gdK none
                                                        (O (Key.call 74)
                                                          [AV.t
                                                              (T.ptr
                                                                [T.bool s2, T.lst 1 eq2 d2, T.bool t2,
                                                                  T.lst 1 f2 g2])]
                                                          [])
                                                        fun l =>
                                                        gdK none l.head? fun x =>
                                                          gdK none
                                                            (O (Key.call 74)
                                                              [AV.t
                                                                  (T.ptr
                                                                    [T.bool s3, T.lst 1 eq3 d3, T.bool t3,
                                                                      T.lst 1 f3 g3])]
                                                              [])
                                                            fun l =>
                                                            gdK none l.head? fun x_3 =>
                                                              gdK none
                                                                (O (Key.call 72)
                                                                  [AV.ref (Id.c 0) 0, AV.t x, AV.t x_3]
                                                                  [Blk.box [AV.t (T.bool false), AV.t (T.emp true)]])
                                                                fun l =>
                                                                gdK none l.head? fun x =>
                                                                  gdK none (List.drop 1 l).head? fun x =>
                                                                    gdK none x.bool? fun b_2 =>
                                                                      gdK none (List.drop 1 l).tail.head? fun x =>
                                                                        gdK none (T.lst? 1 x) fun p_2 =>
                                                                          gdK none
                                                                            (O (Key.call 69)
                                                                              [AV.ref (Id.c 0) 0,
                                                                                AV.t
                                                                                  (T.ptr
                                                                                    [T.bool b,
                                                                                      T.lst 1 p.fst p.snd]),
                                                                                AV.t
                                                                                  (T.ptr
                                                                                    [T.bool b_2,
                                                                                      T.lst 1 p_2.fst p_2.snd])]
                                                                              [Blk.box
                                                                                  [AV.t (T.bool s), AV.t y,
                                                                                    AV.t (T.bool t), AV.t u]])
                                                                            fun l =>
                                                                            gdK none l.head? fun x =>
                                                                              gdK none (List.drop 1 l).head?
                                                                                fun x =>
                                                                                gdK none x.bool? fun b =>
                                                                                  gdK none
                                                                                    (List.drop 1 l).tail.head?
                                                                                    fun x =>
                                                                                    gdK none (T.lst? 1 x) fun p =>
                                                                                      gdK none
                                                                                        (List.drop 1
                                                                                                l).tail.tail.head?
                                                                                        fun x =>
                                                                                        gdK none x.bool? fun b_3 =>
                                                                                          gdK none
                                                                                            (List.drop 1
                                                                                                      l).tail.tail.tail.head?
                                                                                            fun x =>
                                                                                            gdK none (T.lst? 1 x)
                                                                                              fun p_3 =>
                                                                                              some
                                                                                                [T.nilp, T.bool b,
                                                                                                  T.lst 1 p.fst
                                                                                                    p.snd,
                                                                                                  T.bool b_3,
                                                                                                  T.lst 1 p_3.fst
                                                                                                    p_3.snd]) := by kernel_rfl
theorem e59 (O : Orc) (s : Bool) (y : T) (t : Bool) (u : T) (s2 : Bool) (eq2 : Bool) (d2 : List (List T)) (t2 : Bool) (f2 : Bool) (g2 : List (List T)) (s3 : Bool) (eq3 : Bool) (d3 : List (List T)) (t3 : Bool) (f3 : Bool) (g3 : List (List T)) : stepO PROG ann O (Key.call 33) [AV.ref (Id.c 0) 0, AV.t (T.ptr [T.bool s2, T.lst 1 eq2 d2, T.bool t2, T.lst 1 f2 g2]), AV.t (T.ptr [T.bool s3, T.lst 1 eq3 d3, T.bool t3, T.lst 1 f3 g3])] [Blk.box [AV.t (T.bool s), AV.t y, AV.t (T.bool t), AV.t u]] =
  (gdK none
    (O (Key.call 71)
      [AV.ref (Id.c 0) 0,
        AV.t (T.ptr [T.bool s3, T.lst 1 eq3 d3, T.bool t3, T.lst 1 f3 g3])]
      [Blk.box [AV.t (T.bool false), AV.t (T.emp true), AV.t (T.bool false), AV.t (T.emp true)]])
    fun l =>
    gdK none l.head? fun x =>
      gdK none (List.drop 1 l).head? fun x =>
        gdK none x.bool? fun b =>
          gdK none (List.drop 1 l).tail.head? fun x =>
            gdK none (T.lst? 1 x) fun p =>
              gdK none (List.drop 1 l).tail.tail.head? fun x =>
                gdK none x.bool? fun b_1 =>
                  gdK none (List.drop 1 l).tail.tail.tail.head? fun x =>
                    gdK none (T.lst? 1 x) fun p_1 =>
                      gdK none
                        (O (Key.call 34)
                          [AV.ref (Id.c 0) 0,
                            AV.t (T.ptr [T.bool s2, T.lst 1 eq2 d2, T.bool t2, T.lst 1 f2 g2]),
                            AV.t
                              (T.ptr
                                [T.bool b, T.lst 1 p.fst p.snd, T.bool b_1, T.lst 1 p_1.fst p_1.snd])]
                          [Blk.box [AV.t (T.bool s), AV.t y, AV.t (T.bool t), AV.t u]])
                        fun l =>
                        gdK none l.head? fun x =>
                          gdK none (List.drop 1 l).head? fun x =>
                            gdK none x.bool? fun b =>
                              gdK none (List.drop 1 l).tail.head? fun x =>
                                gdK none (T.lst? 1 x) fun p =>
                                  gdK none (List.drop 1 l).tail.tail.head? fun x =>
                                    gdK none x.bool? fun b_2 =>
                                      gdK none (List.drop 1 l).tail.tail.tail.head? fun x =>
                                        gdK none (T.lst? 1 x) fun p_2 =>
                                          some
                                            [T.nilp, T.bool b, T.lst 1 p.fst p.snd, T.bool b_2,
                                              T.lst 1 p_2.fst p_2.snd]) := by kernel_rfl
theorem e76 (O : Orc) (s : Bool) (y : T) (t : Bool) (u : T) (s2 : Bool) (eq2 : Bool) (d2 : List (List T)) (t2 : Bool) (f2 : Bool) (g2 : List (List T)) : stepO PROG ann O (Key.call 71) [AV.ref (Id.c 0) 0, AV.t (T.ptr [T.bool s2, T.lst 1 eq2 d2, T.bool t2, T.lst 1 f2 g2])] [Blk.box [AV.t (T.bool s), AV.t y, AV.t (T.bool t), AV.t u]] =
  (gdK none
    (O (Key.call 103)
      [AV.ref (Id.c 0) 0,
        AV.t (T.ptr [T.bool s2, T.lst 1 eq2 d2, T.bool t2, T.lst 1 f2 g2])]
      [Blk.box [AV.t (T.bool false), AV.t (T.emp true)]])
    fun l =>
    gdK none l.head? fun x =>
      gdK none (List.drop 1 l).head? fun x =>
        gdK none x.bool? fun b =>
          gdK none (List.drop 1 l).tail.head? fun x =>
            gdK none (T.lst? 1 x) fun p =>
              gdK none
                (O (Key.call 74)
                  [AV.t (T.ptr [T.bool s2, T.lst 1 eq2 d2, T.bool t2, T.lst 1 f2 g2])] [])
                fun l =>
                gdK none l.head? fun x =>
                  gdK none
                    (O (Key.call 69)
                      [AV.ref (Id.c 0) 0, AV.t (T.ptr [T.bool b, T.lst 1 p.fst p.snd]), AV.t x]
                      [Blk.box [AV.t (T.bool s), AV.t y, AV.t (T.bool t), AV.t u]])
                    fun l =>
                    gdK none l.head? fun x =>
                      gdK none (List.drop 1 l).head? fun x =>
                        gdK none x.bool? fun b =>
                          gdK none (List.drop 1 l).tail.head? fun x =>
                            gdK none (T.lst? 1 x) fun p =>
                              gdK none (List.drop 1 l).tail.tail.head? fun x =>
                                gdK none x.bool? fun b_1 =>
                                  gdK none (List.drop 1 l).tail.tail.tail.head? fun x =>
                                    gdK none (T.lst? 1 x) fun p_1 =>
                                      some
                                        [T.nilp, T.bool b, T.lst 1 p.fst p.snd, T.bool b_1,
                                          T.lst 1 p_1.fst p_1.snd]) := by kernel_rfl
theorem e42 (O : Orc) (s2 : Bool) (eq2 : Bool) (d2 : List (List T)) (t2 : Bool) (f2 : Bool) (g2 : List (List T)) (s3 : Bool) (eq3 : Bool) (d3 : List (List T)) (t3 : Bool) (f3 : Bool) (g3 : List (List T)) : stepO PROG ann O (Key.call 35) [AV.t (T.ptr [T.bool s2, T.lst 1 eq2 d2, T.bool t2, T.lst 1 f2 g2]), AV.t (T.ptr [T.bool s3, T.lst 1 eq3 d3, T.bool t3, T.lst 1 f3 g3])] [] =
  (gdK none
    (O (Key.call 33)
      [AV.ref (Id.c 0) 0,
        AV.t (T.ptr [T.bool s2, T.lst 1 eq2 d2, T.bool t2, T.lst 1 f2 g2]),
        AV.t (T.ptr [T.bool s3, T.lst 1 eq3 d3, T.bool t3, T.lst 1 f3 g3])]
      [Blk.box [AV.t (T.bool false), AV.t (T.emp true), AV.t (T.bool false), AV.t (T.emp true)]])
    fun l =>
    gdK none l.head? fun x =>
      gdK none (List.drop 1 l).head? fun x =>
        gdK none x.bool? fun b =>
          gdK none (List.drop 1 l).tail.head? fun x =>
            gdK none (T.lst? 1 x) fun p =>
              gdK none (List.drop 1 l).tail.tail.head? fun x =>
                gdK none x.bool? fun b_1 =>
                  gdK none (List.drop 1 l).tail.tail.tail.head? fun x =>
                    gdK none (T.lst? 1 x) fun p_1 =>
                      gdK none
                        (O (Key.call 76)
                          [AV.t
                              (T.ptr
                                [T.bool b, T.lst 1 p.fst p.snd, T.bool b_1, T.lst 1 p_1.fst p_1.snd])]
                          [])
                        fun l =>
                        gdK none l.head? fun x => gdK none (T.int? IntKind.i64 x) fun n => some [T.int IntKind.i64 n]) := by kernel_rfl
theorem e43 (O : Orc) (n m : Int) : stepO PROG ann O (Key.call 31) [AV.t (T.int .i64 n), AV.t (T.int .i64 m)] [] =
  (gdK none (O (Key.call 27) [AV.t (T.int IntKind.i64 n)] []) fun l =>
    gdK none l.head? fun x =>
      gdK none (O (Key.call 27) [AV.t (T.int IntKind.i64 m)] []) fun l =>
        gdK none l.head? fun x_1 =>
          gdK none
            (O (Key.call 69) [AV.ref (Id.c 0) 0, AV.t x, AV.t x_1]
              [Blk.box [AV.t (T.bool false), AV.t (T.emp true), AV.t (T.bool false), AV.t (T.emp true)]])
            fun l =>
            gdK none l.head? fun x =>
              gdK none (List.drop 1 l).head? fun x =>
                gdK none x.bool? fun b =>
                  gdK none (List.drop 1 l).tail.head? fun x =>
                    gdK none (T.lst? 1 x) fun p =>
                      gdK none (List.drop 1 l).tail.tail.head? fun x =>
                        gdK none x.bool? fun b_1 =>
                          gdK none (List.drop 1 l).tail.tail.tail.head? fun x =>
                            gdK none (T.lst? 1 x) fun p_1 =>
                              some
                                [T.ptr
                                    [T.bool b, T.lst 1 p.fst p.snd, T.bool b_1, T.lst 1 p_1.fst p_1.snd]]) := by kernel_rfl
theorem e57 (O : Orc) (n m : Int) : stepO PROG ann O (Key.call 100) [AV.agg [AV.t (T.int .i64 n), AV.t (T.int .i64 m)]] [] =
  (gdK none (O (Key.call 31) [AV.t (T.int IntKind.i64 n), AV.t (T.int IntKind.i64 m)] []) fun l =>
    gdK none l.head? fun x => some [x]) := by kernel_rfl
theorem e40 (O : Orc) (n m : Int) : stepO PROG ann O (Key.call 9) [AV.agg [AV.t (T.int .i64 n), AV.t (T.int .i64 m)]] [] =
  (bif
      bif
          bif bif decide (m < (1 : Int)) then true else decide (m > (1073741824 : Int)) then true
          else decide (n < (-1073741824 : Int)) then
        true
      else decide (n > (1073741824 : Int)) then
    some [T.bool false]
  else
    gdK none (O (Key.call 27) [AV.t (T.int IntKind.i64 n)] []) fun l =>
      gdK none l.head? fun x =>
        gdK none (O (Key.call 27) [AV.t (T.int IntKind.i64 m)] []) fun l =>
          gdK none l.head? fun x_1 =>
            gdK none
              (O (Key.call 26) [AV.ref (Id.c 0) 0, AV.t T.nilp, AV.t T.nilp, AV.t x, AV.t x_1]
                [Blk.box [AV.t (T.bool false), AV.t (T.emp true)]])
              fun l =>
              gdK none l.head? fun x =>
                gdK none (List.drop 1 l).head? fun x =>
                  gdK none x.bool? fun b =>
                    gdK none (List.drop 1 l).tail.head? fun x =>
                      gdK none (T.lst? 1 x) fun p =>
                        gdK none (O (Key.call 27) [AV.t (T.int IntKind.i64 (1 : Int))] []) fun l =>
                          gdK none l.head? fun x =>
                            gdK none
                              (O (Key.call 28) [AV.t (T.ptr [T.bool b, T.lst 1 p.fst p.snd]), AV.t x] [])
                              fun l =>
                              gdK none l.head? fun x =>
                                gdK none (T.int? IntKind.i64 x) fun n => some [T.bool (n == (0 : Int))]) := by kernel_rfl
theorem e41 (O : Orc) (eo : Bool) (of : List (List T)) (en : Bool) (n : List (List T)) : stepO PROG ann O (Key.call 85) [AV.t (T.lst 1 eo of), AV.t (T.lst 2 en n)] [] =
  (gdK none (O (Key.call 31) [AV.t (T.int IntKind.i64 (0 : Int)), AV.t (T.int IntKind.i64 (1 : Int))] []) fun l =>
    gdK none l.head? fun x =>
      O
        K41n3
        [AV.t (T.lst 1 eo of), AV.t (T.lst 2 en n), AV.t x, AV.t (T.int IntKind.i64 (0 : Int))] []) := by kernel_rfl
theorem e41n3 (O : Orc) (ev0 : Bool) (v0 : List (List T)) (ev1 : Bool) (v1 : List (List T)) (v5 : T) (v6 : Int) : stepO PROG ann O K41n3 [(AV.t (T.lst 1 ev0 v0)), (AV.t (T.lst 2 ev1 v1)), (AV.t v5), (AV.t (T.int IntKind.i64 v6))] [] =
  (bif decide (v6 < (↑v0.length : Int)) then
    gdK none (if (0 : Int) ≤ v6 ∧ v6 < (↑v1.length : Int) then some () else none) fun x =>
      gdK none v1[v6.toNat]? fun l =>
        gdK none l.head? fun x =>
          gdK none l.tail.head? fun x_1 =>
            gdK none (T.int? IntKind.i64 x) fun n =>
              gdK none (T.int? IntKind.i64 x_1) fun n_1 =>
                gdK none (O (Key.call 100) [AV.agg [AV.t (T.int IntKind.i64 n), AV.t (T.int IntKind.i64 n_1)]] [])
                  fun l =>
                  gdK none l.head? fun x =>
                    gdK none (if (0 : Int) ≤ v6 ∧ v6 < (↑v0.length : Int) then some () else none) fun x_2 =>
                      gdK none v0[v6.toNat]? fun l =>
                        gdK none l.head? fun x_3 =>
                          gdK none (T.int? IntKind.i64 x_3) fun n =>
                            gdK none
                              (O (Key.call 31) [AV.t (T.int IntKind.i64 n), AV.t (T.int IntKind.i64 (1 : Int))]
                                [])
                              fun l =>
                              gdK none l.head? fun x_4 =>
                                gdK none
                                  (O (Key.call 36) [AV.ref (Id.c 0) 0, AV.t x, AV.t x_4]
                                    [Blk.box
                                        [AV.t (T.bool false), AV.t (T.emp true), AV.t (T.bool false), AV.t (T.emp true)]])
                                  fun l =>
                                  gdK none l.head? fun x =>
                                    gdK none (List.drop 1 l).head? fun x =>
                                      gdK none x.bool? fun b =>
                                        gdK none (List.drop 1 l).tail.head? fun x =>
                                          gdK none (T.lst? 1 x) fun p =>
                                            gdK none (List.drop 1 l).tail.tail.head? fun x =>
                                              gdK none x.bool? fun b_1 =>
                                                gdK none (List.drop 1 l).tail.tail.tail.head? fun x =>
                                                  gdK none (T.lst? 1 x) fun p_1 =>
                                                    gdK none
                                                      (O (Key.call 34)
                                                        [AV.ref (Id.c 0) 0, AV.t v5,
                                                          AV.t
                                                            (T.ptr
                                                              [T.bool b, T.lst 1 p.fst p.snd, T.bool b_1,
                                                                T.lst 1 p_1.fst p_1.snd])]
                                                        [Blk.box
                                                            [AV.t (T.bool false), AV.t (T.emp true), AV.t (T.bool false),
                                                              AV.t (T.emp true)]])
                                                      fun l =>
                                                      gdK none l.head? fun x =>
                                                        gdK none (List.drop 1 l).head? fun x =>
                                                          gdK none x.bool? fun b =>
                                                            gdK none (List.drop 1 l).tail.head? fun x =>
                                                              gdK none (T.lst? 1 x) fun p =>
                                                                gdK none (List.drop 1 l).tail.tail.head? fun x =>
                                                                  gdK none x.bool? fun b_2 =>
                                                                    gdK none (List.drop 1 l).tail.tail.tail.head?
                                                                      fun x =>
                                                                      gdK none (T.lst? 1 x) fun p_2 =>
                                                                        O
                                                                          K41n3
                                                                          [AV.t (T.lst 1 ev0 v0),
                                                                            AV.t (T.lst 2 ev1 v1),
                                                                            AV.t
                                                                              (T.ptr
                                                                                [T.bool b, T.lst 1 p.fst p.snd,
                                                                                  T.bool b_2,
                                                                                  T.lst 1 p_2.fst p_2.snd]),
                                                                            AV.t
                                                                              (T.int IntKind.i64
                                                                                (IntKind.i64.wrap (v6 + (1 : Int))))]
                                                                          []
  else some [v5]) := by kernel_rfl
theorem e41n3s2 (O : Orc) (ev0 : Bool) (v0 : List (List T)) (ev1 : Bool) (v1 : List (List T)) (v5_0 : Bool) (ev5_1 : Bool) (v5_1 : List (List T)) (v5_2 : Bool) (ev5_3 : Bool) (v5_3 : List (List T)) (v6 : Int) : stepO PROG ann O K41n3 [(AV.t (T.lst 1 ev0 v0)), (AV.t (T.lst 2 ev1 v1)), (AV.t (T.ptr [(T.bool v5_0), (T.lst 1 ev5_1 v5_1), (T.bool v5_2), (T.lst 1 ev5_3 v5_3)])), (AV.t (T.int IntKind.i64 v6))] [] =
  (bif decide (v6 < (↑v0.length : Int)) then
    gdK none (if (0 : Int) ≤ v6 ∧ v6 < (↑v1.length : Int) then some () else none) fun x =>
      gdK none v1[v6.toNat]? fun l =>
        gdK none l.head? fun x =>
          gdK none l.tail.head? fun x_1 =>
            gdK none (T.int? IntKind.i64 x) fun n =>
              gdK none (T.int? IntKind.i64 x_1) fun n_1 =>
                gdK none (O (Key.call 100) [AV.agg [AV.t (T.int IntKind.i64 n), AV.t (T.int IntKind.i64 n_1)]] [])
                  fun l =>
                  gdK none l.head? fun x =>
                    gdK none (if (0 : Int) ≤ v6 ∧ v6 < (↑v0.length : Int) then some () else none) fun x_2 =>
                      gdK none v0[v6.toNat]? fun l =>
                        gdK none l.head? fun x_3 =>
                          gdK none (T.int? IntKind.i64 x_3) fun n =>
                            gdK none
                              (O (Key.call 31) [AV.t (T.int IntKind.i64 n), AV.t (T.int IntKind.i64 (1 : Int))]
                                [])
                              fun l =>
                              gdK none l.head? fun x_4 =>
                                gdK none
                                  (O (Key.call 36) [AV.ref (Id.c 0) 0, AV.t x, AV.t x_4]
                                    [Blk.box
                                        [AV.t (T.bool false), AV.t (T.emp true), AV.t (T.bool false), AV.t (T.emp true)]])
                                  fun l =>
                                  gdK none l.head? fun x =>
                                    gdK none (List.drop 1 l).head? fun x =>
                                      gdK none x.bool? fun b =>
                                        gdK none (List.drop 1 l).tail.head? fun x =>
                                          gdK none (T.lst? 1 x) fun p =>
                                            gdK none (List.drop 1 l).tail.tail.head? fun x =>
                                              gdK none x.bool? fun b_1 =>
                                                gdK none (List.drop 1 l).tail.tail.tail.head? fun x =>
                                                  gdK none (T.lst? 1 x) fun p_1 =>
                                                    gdK none
                                                      (O (Key.call 34)
                                                        [AV.ref (Id.c 0) 0,
                                                          AV.t
                                                            (T.ptr
                                                              [T.bool v5_0, T.lst 1 ev5_1 v5_1, T.bool v5_2,
                                                                T.lst 1 ev5_3 v5_3]),
                                                          AV.t
                                                            (T.ptr
                                                              [T.bool b, T.lst 1 p.fst p.snd, T.bool b_1,
                                                                T.lst 1 p_1.fst p_1.snd])]
                                                        [Blk.box
                                                            [AV.t (T.bool false), AV.t (T.emp true), AV.t (T.bool false),
                                                              AV.t (T.emp true)]])
                                                      fun l =>
                                                      gdK none l.head? fun x =>
                                                        gdK none (List.drop 1 l).head? fun x =>
                                                          gdK none x.bool? fun b =>
                                                            gdK none (List.drop 1 l).tail.head? fun x =>
                                                              gdK none (T.lst? 1 x) fun p =>
                                                                gdK none (List.drop 1 l).tail.tail.head? fun x =>
                                                                  gdK none x.bool? fun b_2 =>
                                                                    gdK none (List.drop 1 l).tail.tail.tail.head?
                                                                      fun x =>
                                                                      gdK none (T.lst? 1 x) fun p_2 =>
                                                                        O
                                                                          K41n3
                                                                          [AV.t (T.lst 1 ev0 v0),
                                                                            AV.t (T.lst 2 ev1 v1),
                                                                            AV.t
                                                                              (T.ptr
                                                                                [T.bool b, T.lst 1 p.fst p.snd,
                                                                                  T.bool b_2,
                                                                                  T.lst 1 p_2.fst p_2.snd]),
                                                                            AV.t
                                                                              (T.int IntKind.i64
                                                                                (IntKind.i64.wrap (v6 + (1 : Int))))]
                                                                          []
  else some [T.ptr [T.bool v5_0, T.lst 1 ev5_1 v5_1, T.bool v5_2, T.lst 1 ev5_3 v5_3]]) := by kernel_rfl
theorem e79 (O : Orc) (ex : Bool) (x : List (List T)) (n : Int) : stepO PROG ann O (Key.call 131) [AV.t (T.lst 1 ex x), AV.t (T.int .i64 n)] [] =
  (gdK none
    (mkOk (IntKind.i64.wrap (IntKind.i64.wrap ((↑x.length : Int) + IntKind.i64.wrap (n.tdiv (32 : Int))) + (1 : Int)))
      (IntKind.i64.wrap (IntKind.i64.wrap ((↑x.length : Int) + IntKind.i64.wrap (n.tdiv (32 : Int))) + (1 : Int))))
    fun x_1 =>
    O
      K79n3
      [AV.t (T.int IntKind.i64 n), AV.own (Id.c 0), AV.t (T.lst 1 ex x),
        AV.t (T.int IntKind.i64 (↑x.length : Int)), AV.t (T.int IntKind.i64 (0 : Int))]
      [Blk.sl false 1 false
          (List.replicate
            (IntKind.i64.wrap
                (IntKind.i64.wrap ((↑x.length : Int) + IntKind.i64.wrap (n.tdiv (32 : Int))) + (1 : Int))).toNat
            [T.int IntKind.u32 (0 : Int)])]) := by kernel_rfl
theorem e79n3 (O : Orc) (v1 : Int) (ev16 : Bool) (v16 : List (List T)) (v17 : Int) (v18 : Int) (ec0 : Bool) (c0 : List (List T)) : stepO PROG ann O K79n3 [(AV.t (T.int IntKind.i64 v1)), (AV.own (Id.c 0)), (AV.t (T.lst 1 ev16 v16)), (AV.t (T.int IntKind.i64 v17)), (AV.t (T.int IntKind.i64 v18))] [(Blk.sl false 1 ec0 c0)] =
  (bif decide (v18 < v17) then
    gdK none (if (0 : Int) ≤ v18 ∧ v18 < (↑v16.length : Int) then some () else none) fun x =>
      gdK none v16[v18.toNat]? fun l =>
        gdK none l.head? fun x =>
          gdK none (T.int? IntKind.u32 x) fun n =>
            gdK none (if v1.tmod (32 : Int) < (0 : Int) then none else some ()) fun x =>
              gdK none
                (if
                    (0 : Int) ≤ IntKind.i64.wrap (v18 + IntKind.i64.wrap (v1.tdiv (32 : Int))) ∧
                      IntKind.i64.wrap (v18 + IntKind.i64.wrap (v1.tdiv (32 : Int))) < (↑c0.length : Int) then
                  some ()
                else none)
                fun x =>
                gdK none c0[(IntKind.i64.wrap (v18 + IntKind.i64.wrap (v1.tdiv (32 : Int)))).toNat]? fun l =>
                  gdK none l.head? fun x =>
                    gdK none (T.int? IntKind.u32 x) fun n_1 =>
                      gdK none
                        (if
                            (0 : Int) ≤ IntKind.i64.wrap (v18 + IntKind.i64.wrap (v1.tdiv (32 : Int))) ∧
                              IntKind.i64.wrap (v18 + IntKind.i64.wrap (v1.tdiv (32 : Int))) < (↑c0.length : Int) then
                          some ()
                        else none)
                        fun x =>
                        gdK none
                          (storeIn (IntKind.i64.wrap (v18 + IntKind.i64.wrap (v1.tdiv (32 : Int)))).toNat 0
                            [T.int IntKind.u32
                                (IntKind.u32.wrap
                                  (↑(BitVec.ofInt 32 n_1 |||
                                          BitVec.ofInt 32
                                            (IntKind.u32.wrap
                                              (IntKind.u64.wrap
                                                (IntKind.u64.wrap n *
                                                  (2 : Int) ^ min (v1.tmod (32 : Int)).toNat 64)))).toNat :
                                    Int))]
                            c0)
                          fun l =>
                          gdK none
                            (if
                                (0 : Int) ≤
                                    IntKind.i64.wrap
                                      (IntKind.i64.wrap (v18 + IntKind.i64.wrap (v1.tdiv (32 : Int))) + (1 : Int)) ∧
                                  IntKind.i64.wrap
                                      (IntKind.i64.wrap (v18 + IntKind.i64.wrap (v1.tdiv (32 : Int))) + (1 : Int)) <
                                    (↑l.length : Int) then
                              some ()
                            else none)
                            fun x =>
                            gdK none
                              (storeIn
                                (IntKind.i64.wrap
                                    (IntKind.i64.wrap (v18 + IntKind.i64.wrap (v1.tdiv (32 : Int))) + (1 : Int))).toNat
                                0
                                [T.int IntKind.u32
                                    (IntKind.u32.wrap
                                      ((IntKind.u64.wrap
                                            (IntKind.u64.wrap n *
                                              (2 : Int) ^ min (v1.tmod (32 : Int)).toNat 64)).fdiv
                                        ((2 : Int) ^ 32)))]
                                l)
                              fun l =>
                              O
                                K79n3
                                [AV.t (T.int IntKind.i64 v1), AV.own (Id.c 0), AV.t (T.lst 1 ev16 v16),
                                  AV.t (T.int IntKind.i64 v17),
                                  AV.t (T.int IntKind.i64 (IntKind.i64.wrap (v18 + (1 : Int))))]
                                [Blk.sl false 1 ec0 l]
  else some [T.lst 1 ec0 c0]) := by kernel_rfl
theorem e80 (O : Orc) (ex : Bool) (x : List (List T)) (n : Int) : stepO PROG ann O (Key.call 132) [AV.t (T.lst 1 ex x), AV.t (T.int .i64 n)] [] =
  (bif decide (IntKind.i64.wrap (n.tdiv (32 : Int)) ≥ (↑x.length : Int)) then some [T.emp true]
  else
    gdK none (inB (IntKind.i64.wrap (n.tdiv (32 : Int))) (↑x.length : Int) (↑x.length : Int)) fun x_1 =>
      gdK none
        (mkOk (↑(sub (IntKind.i64.wrap (n.tdiv (32 : Int))) (↑x.length : Int) x).length : Int)
          (↑(sub (IntKind.i64.wrap (n.tdiv (32 : Int))) (↑x.length : Int) x).length : Int))
        fun x_2 =>
        O
          K80n6
          [AV.t (T.lst 1 ex (sub (IntKind.i64.wrap (n.tdiv (32 : Int))) (↑x.length : Int) x)),
            AV.t (T.int IntKind.i64 n), AV.own (Id.c 0),
            AV.t (T.lst 1 ex (sub (IntKind.i64.wrap (n.tdiv (32 : Int))) (↑x.length : Int) x)),
            AV.t (T.int IntKind.i64 (↑(sub (IntKind.i64.wrap (n.tdiv (32 : Int))) (↑x.length : Int) x).length : Int)),
            AV.t (T.int IntKind.i64 (0 : Int))]
          [Blk.sl false 1 false
              (List.replicate (↑(sub (IntKind.i64.wrap (n.tdiv (32 : Int))) (↑x.length : Int) x).length : Int).toNat
                [T.int IntKind.u32 (0 : Int)])]) := by kernel_rfl
theorem e80n6 (O : Orc) (ev0 : Bool) (v0 : List (List T)) (v1 : Int) (ev20 : Bool) (v20 : List (List T)) (v21 : Int) (v22 : Int) (ec0 : Bool) (c0 : List (List T)) : stepO PROG ann O K80n6 [(AV.t (T.lst 1 ev0 v0)), (AV.t (T.int IntKind.i64 v1)), (AV.own (Id.c 0)), (AV.t (T.lst 1 ev20 v20)), (AV.t (T.int IntKind.i64 v21)), (AV.t (T.int IntKind.i64 v22))] [(Blk.sl false 1 ec0 c0)] =
  (bif decide (v22 < v21) then
    gdK none (if (0 : Int) ≤ v22 ∧ v22 < (↑v20.length : Int) then some () else none) fun x =>
      gdK none v20[v22.toNat]? fun l =>
        gdK none l.head? fun x =>
          gdK none (T.int? IntKind.u32 x) fun n =>
            gdK none (if v1.tmod (32 : Int) < (0 : Int) then none else some ()) fun x =>
              gdK none (if (0 : Int) ≤ v22 ∧ v22 < (↑c0.length : Int) then some () else none) fun x =>
                gdK none
                  (storeIn v22.toNat 0
                    [T.int IntKind.u32 (n.fdiv ((2 : Int) ^ min (v1.tmod (32 : Int)).toNat 32))] c0)
                  fun l =>
                  bif
                      bif decide (IntKind.i64.wrap (v22 + (1 : Int)) < (↑v0.length : Int)) then
                        decide (v1.tmod (32 : Int) > (0 : Int))
                      else false then
                    gdK none (if (0 : Int) ≤ v22 ∧ v22 < (↑l.length : Int) then some () else none) fun x =>
                      gdK none l[v22.toNat]? fun l_1 =>
                        gdK none l_1.head? fun x =>
                          gdK none (T.int? IntKind.u32 x) fun n =>
                            gdK none
                              (if
                                  (0 : Int) ≤ IntKind.i64.wrap (v22 + (1 : Int)) ∧
                                    IntKind.i64.wrap (v22 + (1 : Int)) < (↑v0.length : Int) then
                                some ()
                              else none)
                              fun x =>
                              gdK none v0[(IntKind.i64.wrap (v22 + (1 : Int))).toNat]? fun l_2 =>
                                gdK none l_2.head? fun x =>
                                  gdK none (T.int? IntKind.u32 x) fun n_1 =>
                                    gdK none
                                      (if IntKind.i64.wrap ((32 : Int) - v1.tmod (32 : Int)) < (0 : Int) then none
                                      else some ())
                                      fun x =>
                                      gdK none (if (0 : Int) ≤ v22 ∧ v22 < (↑l.length : Int) then some () else none)
                                        fun x =>
                                        gdK none
                                          (storeIn v22.toNat 0
                                            [T.int IntKind.u32
                                                (IntKind.u32.wrap
                                                  (↑(BitVec.ofInt 32 n |||
                                                          BitVec.ofInt 32
                                                            (IntKind.u32.wrap
                                                              (n_1 *
                                                                (2 : Int) ^
                                                                  min
                                                                    (IntKind.i64.wrap
                                                                        ((32 : Int) - v1.tmod (32 : Int))).toNat
                                                                    32))).toNat :
                                                    Int))]
                                            l)
                                          fun l =>
                                          O
                                            K80n6
                                            [AV.t (T.lst 1 ev0 v0), AV.t (T.int IntKind.i64 v1),
                                              AV.own (Id.c 0), AV.t (T.lst 1 ev20 v20),
                                              AV.t (T.int IntKind.i64 v21),
                                              AV.t (T.int IntKind.i64 (IntKind.i64.wrap (v22 + (1 : Int))))]
                                            [Blk.sl false 1 ec0 l]
                  else
                    O
                      K80n6
                      [AV.t (T.lst 1 ev0 v0), AV.t (T.int IntKind.i64 v1), AV.own (Id.c 0),
                        AV.t (T.lst 1 ev20 v20), AV.t (T.int IntKind.i64 v21),
                        AV.t (T.int IntKind.i64 (IntKind.i64.wrap (v22 + (1 : Int))))]
                      [Blk.sl false 1 ec0 l]
  else some [T.lst 1 ec0 c0]) := by kernel_rfl
theorem e78 (O : Orc) (ex : Bool) (x : List (List T)) (ey : Bool) (y : List (List T)) : stepO PROG ann O (Key.call 130) [AV.t (T.lst 1 ex x), AV.t (T.lst 1 ey y)] [] =
  (bif (↑y.length : Int) == (1 : Int) then
    gdK none (mkOk (↑x.length : Int) (↑x.length : Int)) fun x_1 =>
      O
        K78n4
        [AV.t (T.lst 1 ex x), AV.t (T.lst 1 ey y), AV.own (Id.c 0),
          AV.t (T.int IntKind.u64 (0 : Int)), AV.t (T.int IntKind.i64 (IntKind.i64.wrap ((↑x.length : Int) - (1 : Int))))]
        [Blk.sl false 1 false (List.replicate (↑x.length : Int).toNat [T.int IntKind.u32 (0 : Int)])]
  else
    O
      K78n11
      [AV.t (T.lst 1 ex x), AV.t (T.lst 1 ey y), AV.t (T.int IntKind.i64 (0 : Int))] []) := by kernel_rfl
theorem e78n4 (O : Orc) (ev0 : Bool) (v0 : List (List T)) (ev1 : Bool) (v1 : List (List T)) (v7 : Int) (v8 : Int) (ec0 : Bool) (c0 : List (List T)) : stepO PROG ann O K78n4 [(AV.t (T.lst 1 ev0 v0)), (AV.t (T.lst 1 ev1 v1)), (AV.own (Id.c 0)), (AV.t (T.int IntKind.u64 v7)), (AV.t (T.int IntKind.i64 v8))] [(Blk.sl false 1 ec0 c0)] =
  (bif decide (v8 ≥ (0 : Int)) then
    gdK none (if (0 : Int) ≤ v8 ∧ v8 < (↑v0.length : Int) then some () else none) fun x =>
      gdK none v0[v8.toNat]? fun l =>
        gdK none l.head? fun x =>
          gdK none (T.int? IntKind.u32 x) fun n =>
            gdK none (if (0 : Int) ≤ (0 : Int) ∧ (0 : Int) < (↑v1.length : Int) then some () else none) fun x =>
              gdK none v1[0]? fun l =>
                gdK none l.head? fun x =>
                  gdK none (T.int? IntKind.u32 x) fun n_1 =>
                    gdK none (if IntKind.u64.wrap n_1 = (0 : Int) then none else some ()) fun x =>
                      gdK none (if (0 : Int) ≤ v8 ∧ v8 < (↑c0.length : Int) then some () else none) fun x =>
                        gdK none
                          (storeIn v8.toNat 0
                            [T.int IntKind.u32
                                (IntKind.u32.wrap
                                  (IntKind.u64.wrap
                                    ((IntKind.u64.wrap
                                          (↑(BitVec.ofInt 64 (IntKind.u64.wrap (v7 * (2 : Int) ^ 32)) |||
                                                  BitVec.ofInt 64 (IntKind.u64.wrap n)).toNat :
                                            Int)).tdiv
                                      (IntKind.u64.wrap n_1))))]
                            c0)
                          fun l =>
                          gdK none (if (0 : Int) ≤ (0 : Int) ∧ (0 : Int) < (↑v1.length : Int) then some () else none)
                            fun x =>
                            gdK none v1[0]? fun l_1 =>
                              gdK none l_1.head? fun x =>
                                gdK none (T.int? IntKind.u32 x) fun n_2 =>
                                  gdK none (if IntKind.u64.wrap n_2 = (0 : Int) then none else some ()) fun x =>
                                    O
                                      K78n4
                                      [AV.t (T.lst 1 ev0 v0), AV.t (T.lst 1 ev1 v1),
                                        AV.own (Id.c 0),
                                        AV.t
                                          (T.int IntKind.u64
                                            ((IntKind.u64.wrap
                                                  (↑(BitVec.ofInt 64
                                                            (IntKind.u64.wrap (v7 * (2 : Int) ^ 32)) |||
                                                          BitVec.ofInt 64 (IntKind.u64.wrap n)).toNat :
                                                    Int)).tmod
                                              (IntKind.u64.wrap n_2))),
                                        AV.t (T.int IntKind.i64 (IntKind.i64.wrap (v8 - (1 : Int))))]
                                      [Blk.sl false 1 ec0 l]
  else some [T.lst 1 ec0 c0, T.lst 1 false [[T.int IntKind.u32 (IntKind.u32.wrap v7)]]]) := by kernel_rfl
theorem e78n11 (O : Orc) (ev0 : Bool) (v0 : List (List T)) (ev1 : Bool) (v1 : List (List T)) (v9 : Int) : stepO PROG ann O K78n11 [(AV.t (T.lst 1 ev0 v0)), (AV.t (T.lst 1 ev1 v1)), (AV.t (T.int IntKind.i64 v9))] [] =
  (gdK none
    (if
        (0 : Int) ≤ IntKind.i64.wrap ((↑v1.length : Int) - (1 : Int)) ∧
          IntKind.i64.wrap ((↑v1.length : Int) - (1 : Int)) < (↑v1.length : Int) then
      some ()
    else none)
    fun x =>
    gdK none v1[(IntKind.i64.wrap ((↑v1.length : Int) - (1 : Int))).toNat]? fun l =>
      gdK none l.head? fun x =>
        gdK none (T.int? IntKind.u32 x) fun n =>
          gdK none (if v9 < (0 : Int) then none else some ()) fun x =>
            bif
                (IntKind.u32.wrap (n * (2 : Int) ^ min v9.toNat 32)).fdiv ((2 : Int) ^ 31) ==
                  (0 : Int) then
              O
                K78n11
                [AV.t (T.lst 1 ev0 v0), AV.t (T.lst 1 ev1 v1),
                  AV.t (T.int IntKind.i64 (IntKind.i64.wrap (v9 + (1 : Int))))]
                []
            else
              gdK none (O (Key.call 131) [AV.t (T.lst 1 ev1 v1), AV.t (T.int IntKind.i64 v9)] []) fun l =>
                gdK none l.head? fun x =>
                  gdK none (T.lst? 1 x) fun p =>
                    gdK none (inB (0 : Int) (↑v1.length : Int) (↑p.snd.length : Int)) fun x =>
                      gdK none (O (Key.call 131) [AV.t (T.lst 1 ev0 v0), AV.t (T.int IntKind.i64 v9)] [])
                        fun l =>
                        gdK none l.head? fun x =>
                          gdK none (T.lst? 1 x) fun p_1 =>
                            gdK none (mkOk (↑p_1.snd.length : Int) (↑p_1.snd.length : Int)) fun x =>
                              O
                                K78n17
                                [AV.t (T.int IntKind.i64 v9), AV.t (T.int IntKind.i64 (↑v1.length : Int)),
                                  AV.t
                                    (T.lst 1 p.fst
                                      (List.take ((↑v1.length : Int).toNat - 0) (List.drop 0 p.snd))),
                                  AV.own (Id.c 0), AV.own (Id.c 1),
                                  AV.t
                                    (T.int IntKind.i64
                                      (IntKind.i64.wrap
                                        (IntKind.i64.wrap ((↑p_1.snd.length : Int) - (↑v1.length : Int)) - (1 : Int))))]
                                [Blk.sl false 1 p_1.fst p_1.snd,
                                  Blk.sl false 1 false
                                    (List.replicate (↑p_1.snd.length : Int).toNat [T.int IntKind.u32 (0 : Int)])]) := by kernel_rfl
theorem e79s2 (O : Orc) (ea0 : Bool) (a0 : List (List T)) (a1 : Int) : stepO PROG ann O (Key.call 131) [(AV.t (T.lst 1 ea0 a0)), (AV.t (T.int IntKind.i64 a1))] [] =
  (gdK none
    (mkOk (IntKind.i64.wrap (IntKind.i64.wrap ((↑a0.length : Int) + IntKind.i64.wrap (a1.tdiv (32 : Int))) + (1 : Int)))
      (IntKind.i64.wrap (IntKind.i64.wrap ((↑a0.length : Int) + IntKind.i64.wrap (a1.tdiv (32 : Int))) + (1 : Int))))
    fun x =>
    O
      K79n3
      [AV.t (T.int IntKind.i64 a1), AV.own (Id.c 0), AV.t (T.lst 1 ea0 a0),
        AV.t (T.int IntKind.i64 (↑a0.length : Int)), AV.t (T.int IntKind.i64 (0 : Int))]
      [Blk.sl false 1 false
          (List.replicate
            (IntKind.i64.wrap
                (IntKind.i64.wrap ((↑a0.length : Int) + IntKind.i64.wrap (a1.tdiv (32 : Int))) + (1 : Int))).toNat
            [T.int IntKind.u32 (0 : Int)])]) := by kernel_rfl
theorem e78n17 (O : Orc) (v9 : Int) (v10 : Int) (ev11 : Bool) (v11 : List (List T)) (v14 : Int) (ec0 : Bool) (c0 : List (List T)) (ec1 : Bool) (c1 : List (List T)) : stepO PROG ann O K78n17 [(AV.t (T.int IntKind.i64 v9)), (AV.t (T.int IntKind.i64 v10)), (AV.t (T.lst 1 ev11 v11)), (AV.own (Id.c 0)), (AV.own (Id.c 1)), (AV.t (T.int IntKind.i64 v14))] [(Blk.sl false 1 ec0 c0), (Blk.sl false 1 ec1 c1)] =
  (bif decide (v14 ≥ (0 : Int)) then
    gdK none
      (if (0 : Int) ≤ IntKind.i64.wrap (v14 + v10) ∧ IntKind.i64.wrap (v14 + v10) < (↑c0.length : Int) then some ()
      else none)
      fun x =>
      gdK none c0[(IntKind.i64.wrap (v14 + v10)).toNat]? fun l =>
        gdK none l.head? fun x =>
          gdK none (T.int? IntKind.u32 x) fun n =>
            gdK none
              (if
                  (0 : Int) ≤ IntKind.i64.wrap (IntKind.i64.wrap (v14 + v10) - (1 : Int)) ∧
                    IntKind.i64.wrap (IntKind.i64.wrap (v14 + v10) - (1 : Int)) < (↑c0.length : Int) then
                some ()
              else none)
              fun x =>
              gdK none c0[(IntKind.i64.wrap (IntKind.i64.wrap (v14 + v10) - (1 : Int))).toNat]? fun l =>
                gdK none l.head? fun x =>
                  gdK none (T.int? IntKind.u32 x) fun n_1 =>
                    gdK none
                      (if
                          (0 : Int) ≤ IntKind.i64.wrap (v10 - (1 : Int)) ∧
                            IntKind.i64.wrap (v10 - (1 : Int)) < (↑v11.length : Int) then
                        some ()
                      else none)
                      fun x =>
                      gdK none v11[(IntKind.i64.wrap (v10 - (1 : Int))).toNat]? fun l =>
                        gdK none l.head? fun x =>
                          gdK none (T.int? IntKind.u32 x) fun n_2 =>
                            gdK none (if IntKind.u64.wrap n_2 = (0 : Int) then none else some ()) fun x =>
                              gdK none
                                (if
                                    (0 : Int) ≤ IntKind.i64.wrap (v10 - (1 : Int)) ∧
                                      IntKind.i64.wrap (v10 - (1 : Int)) < (↑v11.length : Int) then
                                  some ()
                                else none)
                                fun x =>
                                gdK none v11[(IntKind.i64.wrap (v10 - (1 : Int))).toNat]? fun l =>
                                  gdK none l.head? fun x =>
                                    gdK none (T.int? IntKind.u32 x) fun n_3 =>
                                      gdK none (if IntKind.u64.wrap n_3 = (0 : Int) then none else some ()) fun x =>
                                        O
                                          K78n21
                                          [AV.t (T.int IntKind.i64 v9), AV.t (T.int IntKind.i64 v10),
                                            AV.t (T.lst 1 ev11 v11), AV.own (Id.c 0),
                                            AV.own (Id.c 1), AV.t (T.int IntKind.i64 v14),
                                            AV.t
                                              (T.int IntKind.u64
                                                (IntKind.u64.wrap
                                                  ((IntKind.u64.wrap
                                                        (↑(BitVec.ofInt 64
                                                                  (IntKind.u64.wrap
                                                                    (IntKind.u64.wrap n * (2 : Int) ^ 32)) |||
                                                                BitVec.ofInt 64 (IntKind.u64.wrap n_1)).toNat :
                                                          Int)).tdiv
                                                    (IntKind.u64.wrap n_2)))),
                                            AV.t
                                              (T.int IntKind.u64
                                                ((IntKind.u64.wrap
                                                      (↑(BitVec.ofInt 64
                                                                (IntKind.u64.wrap
                                                                  (IntKind.u64.wrap n * (2 : Int) ^ 32)) |||
                                                              BitVec.ofInt 64 (IntKind.u64.wrap n_1)).toNat :
                                                        Int)).tmod
                                                  (IntKind.u64.wrap n_3)))]
                                          [Blk.sl false 1 ec0 c0, Blk.sl false 1 ec1 c1]
  else
    gdK none (inB (0 : Int) v10 (↑c0.length : Int)) fun x =>
      gdK none
        (O (Key.call 132)
          [AV.t (T.lst 1 ec0 (List.take (v10.toNat - 0) c0)), AV.t (T.int IntKind.i64 v9)] [])
        fun l =>
        gdK none l.head? fun x =>
          gdK none (T.lst? 1 x) fun p => some [T.lst 1 ec1 c1, T.lst 1 p.fst p.snd]) := by kernel_rfl
theorem e78n21 (O : Orc) (v9 : Int) (v10 : Int) (ev11 : Bool) (v11 : List (List T)) (v14 : Int) (v16 : Int) (v17 : Int) (ec0 : Bool) (c0 : List (List T)) (ec1 : Bool) (c1 : List (List T)) : stepO PROG ann O K78n21 [(AV.t (T.int IntKind.i64 v9)), (AV.t (T.int IntKind.i64 v10)), (AV.t (T.lst 1 ev11 v11)), (AV.own (Id.c 0)), (AV.own (Id.c 1)), (AV.t (T.int IntKind.i64 v14)), (AV.t (T.int IntKind.u64 v16)), (AV.t (T.int IntKind.u64 v17))] [(Blk.sl false 1 ec0 c0), (Blk.sl false 1 ec1 c1)] =
  (gdK (some !!v16.fdiv ((2 : Int) ^ 32) == (0 : Int))
    (if (0 : Int) ≤ IntKind.i64.wrap (v10 - (2 : Int)) ∧ IntKind.i64.wrap (v10 - (2 : Int)) < (↑v11.length : Int) then
      some ()
    else none)
    fun x =>
    gdK (some !!v16.fdiv ((2 : Int) ^ 32) == (0 : Int)) v11[(IntKind.i64.wrap (v10 - (2 : Int))).toNat]? fun l =>
      gdK (some !!v16.fdiv ((2 : Int) ^ 32) == (0 : Int)) l.head? fun x =>
        gdK (some !!v16.fdiv ((2 : Int) ^ 32) == (0 : Int)) (T.int? IntKind.u32 x) fun n =>
          gdK (some !!v16.fdiv ((2 : Int) ^ 32) == (0 : Int))
            (if
                (0 : Int) ≤ IntKind.i64.wrap (IntKind.i64.wrap (v14 + v10) - (2 : Int)) ∧
                  IntKind.i64.wrap (IntKind.i64.wrap (v14 + v10) - (2 : Int)) < (↑c0.length : Int) then
              some ()
            else none)
            fun x =>
            gdK (some !!v16.fdiv ((2 : Int) ^ 32) == (0 : Int))
              c0[(IntKind.i64.wrap (IntKind.i64.wrap (v14 + v10) - (2 : Int))).toNat]? fun l =>
              gdK (some !!v16.fdiv ((2 : Int) ^ 32) == (0 : Int)) l.head? fun x =>
                gdK (some !!v16.fdiv ((2 : Int) ^ 32) == (0 : Int)) (T.int? IntKind.u32 x) fun n_1 =>
                  bif
                      bif !v16.fdiv ((2 : Int) ^ 32) == (0 : Int) then true
                      else
                        decide
                          (IntKind.u64.wrap (v16 * IntKind.u64.wrap n) >
                            IntKind.u64.wrap
                              (↑(BitVec.ofInt 64 (IntKind.u64.wrap (v17 * (2 : Int) ^ 32)) |||
                                      BitVec.ofInt 64 (IntKind.u64.wrap n_1)).toNat :
                                Int)) then
                    gdK none
                      (if
                          (0 : Int) ≤ IntKind.i64.wrap (v10 - (1 : Int)) ∧
                            IntKind.i64.wrap (v10 - (1 : Int)) < (↑v11.length : Int) then
                        some ()
                      else none)
                      fun x =>
                      gdK none v11[(IntKind.i64.wrap (v10 - (1 : Int))).toNat]? fun l =>
                        gdK none l.head? fun x =>
                          gdK none (T.int? IntKind.u32 x) fun n =>
                            bif
                                !(IntKind.u64.wrap (v17 + IntKind.u64.wrap n)).fdiv ((2 : Int) ^ 32) ==
                                    (0 : Int) then
                              O
                                K78n27
                                [AV.t (T.int IntKind.i64 v9), AV.t (T.int IntKind.i64 v10),
                                  AV.t (T.lst 1 ev11 v11), AV.own (Id.c 0), AV.own (Id.c 1),
                                  AV.t (T.int IntKind.i64 v14),
                                  AV.t (T.int IntKind.u64 (IntKind.u64.wrap (v16 - (1 : Int)))),
                                  AV.t (T.int IntKind.u64 (0 : Int)), AV.t (T.int IntKind.u64 (0 : Int)),
                                  AV.t (T.lst 1 ev11 v11), AV.t (T.int IntKind.i64 (↑v11.length : Int)),
                                  AV.t (T.int IntKind.i64 (0 : Int))]
                                [Blk.sl false 1 ec0 c0, Blk.sl false 1 ec1 c1]
                            else
                              O
                                K78n21
                                [AV.t (T.int IntKind.i64 v9), AV.t (T.int IntKind.i64 v10),
                                  AV.t (T.lst 1 ev11 v11), AV.own (Id.c 0), AV.own (Id.c 1),
                                  AV.t (T.int IntKind.i64 v14),
                                  AV.t (T.int IntKind.u64 (IntKind.u64.wrap (v16 - (1 : Int)))),
                                  AV.t (T.int IntKind.u64 (IntKind.u64.wrap (v17 + IntKind.u64.wrap n)))]
                                [Blk.sl false 1 ec0 c0, Blk.sl false 1 ec1 c1]
                  else
                    O
                      K78n27
                      [AV.t (T.int IntKind.i64 v9), AV.t (T.int IntKind.i64 v10), AV.t (T.lst 1 ev11 v11),
                        AV.own (Id.c 0), AV.own (Id.c 1), AV.t (T.int IntKind.i64 v14),
                        AV.t (T.int IntKind.u64 v16), AV.t (T.int IntKind.u64 (0 : Int)),
                        AV.t (T.int IntKind.u64 (0 : Int)), AV.t (T.lst 1 ev11 v11),
                        AV.t (T.int IntKind.i64 (↑v11.length : Int)), AV.t (T.int IntKind.i64 (0 : Int))]
                      [Blk.sl false 1 ec0 c0, Blk.sl false 1 ec1 c1]) := by kernel_rfl
theorem e80s2 (O : Orc) (ea0 : Bool) (a0 : List (List T)) (a1 : Int) : stepO PROG ann O (Key.call 132) [(AV.t (T.lst 1 ea0 a0)), (AV.t (T.int IntKind.i64 a1))] [] =
  (bif decide (IntKind.i64.wrap (a1.tdiv (32 : Int)) ≥ (↑a0.length : Int)) then some [T.emp true]
  else
    gdK none (inB (IntKind.i64.wrap (a1.tdiv (32 : Int))) (↑a0.length : Int) (↑a0.length : Int)) fun x =>
      gdK none
        (mkOk (↑(sub (IntKind.i64.wrap (a1.tdiv (32 : Int))) (↑a0.length : Int) a0).length : Int)
          (↑(sub (IntKind.i64.wrap (a1.tdiv (32 : Int))) (↑a0.length : Int) a0).length : Int))
        fun x =>
        O
          K80n6
          [AV.t (T.lst 1 ea0 (sub (IntKind.i64.wrap (a1.tdiv (32 : Int))) (↑a0.length : Int) a0)),
            AV.t (T.int IntKind.i64 a1), AV.own (Id.c 0),
            AV.t (T.lst 1 ea0 (sub (IntKind.i64.wrap (a1.tdiv (32 : Int))) (↑a0.length : Int) a0)),
            AV.t (T.int IntKind.i64 (↑(sub (IntKind.i64.wrap (a1.tdiv (32 : Int))) (↑a0.length : Int) a0).length : Int)),
            AV.t (T.int IntKind.i64 (0 : Int))]
          [Blk.sl false 1 false
              (List.replicate (↑(sub (IntKind.i64.wrap (a1.tdiv (32 : Int))) (↑a0.length : Int) a0).length : Int).toNat
                [T.int IntKind.u32 (0 : Int)])]) := by kernel_rfl
theorem e78n27 (O : Orc) (v9 : Int) (v10 : Int) (ev11 : Bool) (v11 : List (List T)) (v14 : Int) (v16 : Int) (v18 : Int) (v19 : Int) (ev172 : Bool) (v172 : List (List T)) (v173 : Int) (v174 : Int) (ec0 : Bool) (c0 : List (List T)) (ec1 : Bool) (c1 : List (List T)) : stepO PROG ann O K78n27 [(AV.t (T.int IntKind.i64 v9)), (AV.t (T.int IntKind.i64 v10)), (AV.t (T.lst 1 ev11 v11)), (AV.own (Id.c 0)), (AV.own (Id.c 1)), (AV.t (T.int IntKind.i64 v14)), (AV.t (T.int IntKind.u64 v16)), (AV.t (T.int IntKind.u64 v18)), (AV.t (T.int IntKind.u64 v19)), (AV.t (T.lst 1 ev172 v172)), (AV.t (T.int IntKind.i64 v173)), (AV.t (T.int IntKind.i64 v174))] [(Blk.sl false 1 ec0 c0), (Blk.sl false 1 ec1 c1)] =
  (bif decide (v174 < v173) then
    gdK none (if (0 : Int) ≤ v174 ∧ v174 < (↑v172.length : Int) then some () else none) fun x =>
      gdK none v172[v174.toNat]? fun l =>
        gdK none l.head? fun x =>
          gdK none (T.int? IntKind.u32 x) fun n =>
            gdK none
              (if (0 : Int) ≤ IntKind.i64.wrap (v14 + v174) ∧ IntKind.i64.wrap (v14 + v174) < (↑c0.length : Int) then
                some ()
              else none)
              fun x =>
              gdK none c0[(IntKind.i64.wrap (v14 + v174)).toNat]? fun l =>
                gdK none l.head? fun x =>
                  gdK none (T.int? IntKind.u32 x) fun n_1 =>
                    gdK none
                      (if
                          (0 : Int) ≤ IntKind.i64.wrap (v14 + v174) ∧
                            IntKind.i64.wrap (v14 + v174) < (↑c0.length : Int) then
                        some ()
                      else none)
                      fun x =>
                      gdK none
                        (storeIn (IntKind.i64.wrap (v14 + v174)).toNat 0
                          [T.int IntKind.u32
                              (IntKind.u32.wrap
                                (IntKind.u64.wrap
                                  (IntKind.u64.wrap
                                      (IntKind.u64.wrap n_1 -
                                        IntKind.u64.wrap
                                          (IntKind.u32.wrap
                                            (IntKind.u64.wrap (v18 + IntKind.u64.wrap (v16 * IntKind.u64.wrap n))))) -
                                    v19)))]
                          c0)
                        fun l =>
                        O
                          K78n27
                          [AV.t (T.int IntKind.i64 v9), AV.t (T.int IntKind.i64 v10), AV.t (T.lst 1 ev11 v11),
                            AV.own (Id.c 0), AV.own (Id.c 1), AV.t (T.int IntKind.i64 v14),
                            AV.t (T.int IntKind.u64 v16),
                            AV.t
                              (T.int IntKind.u64
                                ((IntKind.u64.wrap (v18 + IntKind.u64.wrap (v16 * IntKind.u64.wrap n))).fdiv
                                  ((2 : Int) ^ 32))),
                            AV.t
                              (T.int IntKind.u64
                                ((IntKind.u64.wrap
                                      (IntKind.u64.wrap
                                          (IntKind.u64.wrap n_1 -
                                            IntKind.u64.wrap
                                              (IntKind.u32.wrap
                                                (IntKind.u64.wrap (v18 + IntKind.u64.wrap (v16 * IntKind.u64.wrap n))))) -
                                        v19)).fdiv
                                  ((2 : Int) ^ 63))),
                            AV.t (T.lst 1 ev172 v172), AV.t (T.int IntKind.i64 v173),
                            AV.t (T.int IntKind.i64 (IntKind.i64.wrap (v174 + (1 : Int))))]
                          [Blk.sl false 1 ec0 l, Blk.sl false 1 ec1 c1]
  else
    gdK none
      (if (0 : Int) ≤ IntKind.i64.wrap (v14 + v10) ∧ IntKind.i64.wrap (v14 + v10) < (↑c0.length : Int) then some ()
      else none)
      fun x =>
      gdK none c0[(IntKind.i64.wrap (v14 + v10)).toNat]? fun l =>
        gdK none l.head? fun x =>
          gdK none (T.int? IntKind.u32 x) fun n =>
            gdK none
              (if (0 : Int) ≤ IntKind.i64.wrap (v14 + v10) ∧ IntKind.i64.wrap (v14 + v10) < (↑c0.length : Int) then
                some ()
              else none)
              fun x =>
              gdK none
                (storeIn (IntKind.i64.wrap (v14 + v10)).toNat 0
                  [T.int IntKind.u32
                      (IntKind.u32.wrap (IntKind.u64.wrap (IntKind.u64.wrap (IntKind.u64.wrap n - v18) - v19)))]
                  c0)
                fun l =>
                bif
                    (IntKind.u64.wrap (IntKind.u64.wrap (IntKind.u64.wrap n - v18) - v19)).fdiv
                        ((2 : Int) ^ 63) ==
                      (1 : Int) then
                  O
                    K78n41
                    [AV.t (T.int IntKind.i64 v9), AV.t (T.int IntKind.i64 v10), AV.t (T.lst 1 ev11 v11),
                      AV.own (Id.c 0), AV.own (Id.c 1), AV.t (T.int IntKind.i64 v14),
                      AV.t (T.int IntKind.u64 (IntKind.u64.wrap (v16 - (1 : Int)))), AV.t (T.int IntKind.u64 (0 : Int)),
                      AV.t (T.lst 1 ev11 v11), AV.t (T.int IntKind.i64 (↑v11.length : Int)),
                      AV.t (T.int IntKind.i64 (0 : Int))]
                    [Blk.sl false 1 ec0 l, Blk.sl false 1 ec1 c1]
                else
                  gdK none (if (0 : Int) ≤ v14 ∧ v14 < (↑c1.length : Int) then some () else none) fun x =>
                    gdK none (storeIn v14.toNat 0 [T.int IntKind.u32 (IntKind.u32.wrap v16)] c1) fun l_1 =>
                      O
                        K78n17
                        [AV.t (T.int IntKind.i64 v9), AV.t (T.int IntKind.i64 v10), AV.t (T.lst 1 ev11 v11),
                          AV.own (Id.c 0), AV.own (Id.c 1),
                          AV.t (T.int IntKind.i64 (IntKind.i64.wrap (v14 - (1 : Int))))]
                        [Blk.sl false 1 ec0 l, Blk.sl false 1 ec1 l_1]) := by kernel_rfl
theorem e78n41 (O : Orc) (v9 : Int) (v10 : Int) (ev11 : Bool) (v11 : List (List T)) (v14 : Int) (v16 : Int) (v18 : Int) (ev233 : Bool) (v233 : List (List T)) (v234 : Int) (v235 : Int) (ec0 : Bool) (c0 : List (List T)) (ec1 : Bool) (c1 : List (List T)) : stepO PROG ann O K78n41 [(AV.t (T.int IntKind.i64 v9)), (AV.t (T.int IntKind.i64 v10)), (AV.t (T.lst 1 ev11 v11)), (AV.own (Id.c 0)), (AV.own (Id.c 1)), (AV.t (T.int IntKind.i64 v14)), (AV.t (T.int IntKind.u64 v16)), (AV.t (T.int IntKind.u64 v18)), (AV.t (T.lst 1 ev233 v233)), (AV.t (T.int IntKind.i64 v234)), (AV.t (T.int IntKind.i64 v235))] [(Blk.sl false 1 ec0 c0), (Blk.sl false 1 ec1 c1)] =
  (bif decide (v235 < v234) then
    gdK none (if (0 : Int) ≤ v235 ∧ v235 < (↑v233.length : Int) then some () else none) fun x =>
      gdK none v233[v235.toNat]? fun l =>
        gdK none l.head? fun x =>
          gdK none (T.int? IntKind.u32 x) fun n =>
            gdK none
              (if (0 : Int) ≤ IntKind.i64.wrap (v14 + v235) ∧ IntKind.i64.wrap (v14 + v235) < (↑c0.length : Int) then
                some ()
              else none)
              fun x =>
              gdK none c0[(IntKind.i64.wrap (v14 + v235)).toNat]? fun l =>
                gdK none l.head? fun x =>
                  gdK none (T.int? IntKind.u32 x) fun n_1 =>
                    gdK none
                      (if
                          (0 : Int) ≤ IntKind.i64.wrap (v14 + v235) ∧
                            IntKind.i64.wrap (v14 + v235) < (↑c0.length : Int) then
                        some ()
                      else none)
                      fun x =>
                      gdK none
                        (storeIn (IntKind.i64.wrap (v14 + v235)).toNat 0
                          [T.int IntKind.u32
                              (IntKind.u32.wrap
                                (IntKind.u64.wrap (v18 + IntKind.u64.wrap (IntKind.u64.wrap n_1 + IntKind.u64.wrap n))))]
                          c0)
                        fun l =>
                        O
                          K78n41
                          [AV.t (T.int IntKind.i64 v9), AV.t (T.int IntKind.i64 v10), AV.t (T.lst 1 ev11 v11),
                            AV.own (Id.c 0), AV.own (Id.c 1), AV.t (T.int IntKind.i64 v14),
                            AV.t (T.int IntKind.u64 v16),
                            AV.t
                              (T.int IntKind.u64
                                ((IntKind.u64.wrap
                                      (v18 + IntKind.u64.wrap (IntKind.u64.wrap n_1 + IntKind.u64.wrap n))).fdiv
                                  ((2 : Int) ^ 32))),
                            AV.t (T.lst 1 ev233 v233), AV.t (T.int IntKind.i64 v234),
                            AV.t (T.int IntKind.i64 (IntKind.i64.wrap (v235 + (1 : Int))))]
                          [Blk.sl false 1 ec0 l, Blk.sl false 1 ec1 c1]
  else
    gdK none
      (if (0 : Int) ≤ IntKind.i64.wrap (v14 + v10) ∧ IntKind.i64.wrap (v14 + v10) < (↑c0.length : Int) then some ()
      else none)
      fun x =>
      gdK none c0[(IntKind.i64.wrap (v14 + v10)).toNat]? fun l =>
        gdK none l.head? fun x =>
          gdK none (T.int? IntKind.u32 x) fun n =>
            gdK none
              (if (0 : Int) ≤ IntKind.i64.wrap (v14 + v10) ∧ IntKind.i64.wrap (v14 + v10) < (↑c0.length : Int) then
                some ()
              else none)
              fun x =>
              gdK none
                (storeIn (IntKind.i64.wrap (v14 + v10)).toNat 0
                  [T.int IntKind.u32 (IntKind.u32.wrap (n + IntKind.u32.wrap v18))] c0)
                fun l =>
                gdK none (if (0 : Int) ≤ v14 ∧ v14 < (↑c1.length : Int) then some () else none) fun x =>
                  gdK none (storeIn v14.toNat 0 [T.int IntKind.u32 (IntKind.u32.wrap v16)] c1) fun l_1 =>
                    O
                      K78n17
                      [AV.t (T.int IntKind.i64 v9), AV.t (T.int IntKind.i64 v10), AV.t (T.lst 1 ev11 v11),
                        AV.own (Id.c 0), AV.own (Id.c 1),
                        AV.t (T.int IntKind.i64 (IntKind.i64.wrap (v14 - (1 : Int))))]
                      [Blk.sl false 1 ec0 l, Blk.sl false 1 ec1 l_1]) := by kernel_rfl
end Go.Aev.Wd
