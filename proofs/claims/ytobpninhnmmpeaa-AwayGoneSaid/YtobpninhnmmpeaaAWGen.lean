/-
  Equations of the wide whole numbers.
-/
import Derived.Test.YtobpninhnmmpeaaAGen
set_option linter.unusedSimpArgs false
set_option linter.unusedVariables false
namespace Go.Aev.Wd
open Go Go.Aev Go.Aev.Gen
noncomputable abbrev K51n2m2 : Key := nodeKey PROG 121 true 2 [(0, none), (3, none)] (2, 1002)
noncomputable abbrev K51n2m1 : Key := nodeKey PROG 121 true 2 [(0, none), (3, none)] (1, 2)
noncomputable abbrev K66n6 : Key := nodeKey PROG 123 true 6 [(0, none), (1, none), (5, none), (6, none), (20, none), (21, none), (22, none)] (0, 0)
noncomputable abbrev K68n4 : Key := nodeKey PROG 124 true 4 [(1, none), (5, none), (6, none), (13, none), (14, none), (15, none)] (0, 0)
noncomputable abbrev K67n6 : Key := nodeKey PROG 120 true 6 [(0, none), (1, none), (5, none)] (0, 0)
noncomputable abbrev K53n3 : Key := nodeKey PROG 99 true 3 [(0, none), (3, none), (4, none)] (0, 0)
theorem e35 (O : Orc) (n : Int) : stepO PROG ann O (Key.call 79) [AV.t (T.int .i64 n)] [] =
  (gdK none
    (O (Key.call 98) [AV.ref (Id.c 0) 0, AV.t (T.int IntKind.i64 n)]
      [Blk.box [AV.t (T.bool false), AV.t (T.emp true)]])
    fun l =>
    gdK none l.head? fun x =>
      gdK none (List.drop 1 l).head? fun x =>
        gdK none x.bool? fun b =>
          gdK none (List.drop 1 l).tail.head? fun x =>
            gdK none (T.lst? 1 x) fun p => some [T.ptr [T.bool b, T.lst 1 p.fst p.snd]]) := by kernel_rfl
theorem e48 (O : Orc) (s : Bool) (y : T) (n : Int) : stepO PROG ann O (Key.call 98) [AV.ref (Id.c 0) 0, AV.t (T.int .i64 n)] [Blk.box [AV.t (T.bool s), AV.t y]] =
  (bif decide (n < (0 : Int)) then
    gdK none
      (O (Key.call 112)
        [AV.ref (Id.c 0) 0, AV.t (T.int IntKind.u64 (IntKind.u64.wrap ((0 : Int) - IntKind.u64.wrap n)))]
        [Blk.box [AV.t (T.bool s), AV.t y]])
      fun l =>
      gdK none l.head? fun x =>
        gdK none (List.drop 1 l).head? fun x =>
          gdK none x.bool? fun b =>
            gdK none (List.drop 1 l).tail.head? fun x =>
              gdK none (T.lst? 1 x) fun p => some [T.nilp, T.bool true, T.lst 1 p.fst p.snd]
  else
    gdK none
      (O (Key.call 112) [AV.ref (Id.c 0) 0, AV.t (T.int IntKind.u64 (IntKind.u64.wrap n))]
        [Blk.box [AV.t (T.bool s), AV.t y]])
      fun l =>
      gdK none l.head? fun x =>
        gdK none (List.drop 1 l).head? fun x =>
          gdK none x.bool? fun b =>
            gdK none (List.drop 1 l).tail.head? fun x =>
              gdK none (T.lst? 1 x) fun p => some [T.nilp, T.bool b, T.lst 1 p.fst p.snd]) := by kernel_rfl
theorem e65 (O : Orc) (s : Bool) (y : T) (n : Int) : stepO PROG ann O (Key.call 112) [AV.ref (Id.c 0) 0, AV.t (T.int .u64 n)] [Blk.box [AV.t (T.bool s), AV.t y]] =
  (gdK none
    (O (Key.call 121) [AV.ref (Id.c 0) 0]
      [Blk.box [AV.t (T.bool false), AV.own (Id.c 1)],
        Blk.sl false 1 false
          [[T.int IntKind.u32 (IntKind.u32.wrap n)],
            [T.int IntKind.u32 (IntKind.u32.wrap (n.fdiv ((2 : Int) ^ 32)))]]])
    fun l =>
    gdK none l.head? fun x =>
      gdK none (List.drop 1 l).head? fun x =>
        gdK none x.bool? fun b =>
          gdK none (List.drop 1 l).tail.head? fun x =>
            gdK none (T.lst? 1 x) fun p => some [T.nilp, T.bool b, T.lst 1 p.fst p.snd]) := by kernel_rfl
theorem e51 (O : Orc) (s : Bool) (e : Bool) (d : List (List T)) : stepO PROG ann O (Key.call 121) [AV.ref (Id.c 0) 0] [Blk.box [AV.t (T.bool s), AV.own (Id.c 1)], Blk.sl false 1 e d] =
  (O K51n2m2
    [AV.ref (Id.c 0) 0, AV.t (T.int IntKind.i64 (↑d.length : Int))]
    [Blk.box [AV.t (T.bool s), AV.own (Id.c 1)], Blk.sl false 1 e d]) := by kernel_rfl
theorem e51n2 (O : Orc) (v3 : Int) (c0_0 : Bool) (ec1 : Bool) (c1 : List (List T)) : stepO PROG ann O K51n2m2 [(AV.ref (Id.c 0) 0), (AV.t (T.int IntKind.i64 v3))] [(Blk.box [(AV.t (T.bool c0_0)), (AV.own (Id.c 1))]), (Blk.sl false 1 ec1 c1)] =
  (gdK (some (decide (v3 > (0 : Int))))
    (if (0 : Int) ≤ IntKind.i64.wrap (v3 - (1 : Int)) ∧ IntKind.i64.wrap (v3 - (1 : Int)) < (↑c1.length : Int) then
      some ()
    else none)
    fun x =>
    gdK (some (decide (v3 > (0 : Int)))) c1[(IntKind.i64.wrap (v3 - (1 : Int))).toNat]? fun l =>
      gdK (some (decide (v3 > (0 : Int)))) l.head? fun x =>
        gdK (some (decide (v3 > (0 : Int)))) (T.int? IntKind.u32 x) fun n =>
          bif bif decide (v3 > (0 : Int)) then n == (0 : Int) else false then
            O K51n2m2
              [AV.ref (Id.c 0) 0, AV.t (T.int IntKind.i64 (IntKind.i64.wrap (v3 - (1 : Int))))]
              [Blk.box [AV.t (T.bool c0_0), AV.own (Id.c 1)], Blk.sl false 1 ec1 c1]
          else
            gdK none (inB (0 : Int) v3 (↑c1.length : Int)) fun x =>
              bif v3 == (0 : Int) then
                some [T.nilp, T.bool false, T.lst 1 ec1 (List.take (v3.toNat - 0) c1)]
              else some [T.nilp, T.bool c0_0, T.lst 1 ec1 (List.take (v3.toNat - 0) c1)]) := by kernel_rfl
theorem e51t (O : Orc) (s : Bool) (e : Bool) (d : List (List T)) : stepO PROG ann O (Key.call 121) [AV.ref (Id.c 0) 0] [Blk.box [AV.t (T.bool s), AV.t (T.lst 1 e d)]] =
  (O K51n2m1
    [AV.ref (Id.c 0) 0, AV.t (T.int IntKind.i64 (↑d.length : Int))]
    [Blk.box [AV.t (T.bool s), AV.t (T.lst 1 e d)]]) := by kernel_rfl
theorem e51n2s2 (O : Orc) (v3 : Int) (c0_0 : Bool) (ec0_1 : Bool) (c0_1 : List (List T)) : stepO PROG ann O K51n2m1 [(AV.ref (Id.c 0) 0), (AV.t (T.int IntKind.i64 v3))] [(Blk.box [(AV.t (T.bool c0_0)), (AV.t (T.lst 1 ec0_1 c0_1))])] =
  (gdK (some (decide (v3 > (0 : Int))))
    (if (0 : Int) ≤ IntKind.i64.wrap (v3 - (1 : Int)) ∧ IntKind.i64.wrap (v3 - (1 : Int)) < (↑c0_1.length : Int) then
      some ()
    else none)
    fun x =>
    gdK (some (decide (v3 > (0 : Int)))) c0_1[(IntKind.i64.wrap (v3 - (1 : Int))).toNat]? fun l =>
      gdK (some (decide (v3 > (0 : Int)))) l.head? fun x =>
        gdK (some (decide (v3 > (0 : Int)))) (T.int? IntKind.u32 x) fun n =>
          bif bif decide (v3 > (0 : Int)) then n == (0 : Int) else false then
            O K51n2m1
              [AV.ref (Id.c 0) 0, AV.t (T.int IntKind.i64 (IntKind.i64.wrap (v3 - (1 : Int))))]
              [Blk.box [AV.t (T.bool c0_0), AV.t (T.lst 1 ec0_1 c0_1)]]
          else
            gdK none (inB (0 : Int) v3 (↑c0_1.length : Int)) fun x =>
              bif v3 == (0 : Int) then some [T.nilp, T.bool false, T.lst 1 ec0_1 (sub (0 : Int) v3 c0_1)]
              else some [T.nilp, T.bool c0_0, T.lst 1 ec0_1 (sub (0 : Int) v3 c0_1)]) := by kernel_rfl
theorem e69 (O : Orc) (s : Bool) (y : T) (s2 : Bool) (e2 : Bool) (d2 : List (List T)) : stepO PROG ann O (Key.call 108) [AV.ref (Id.c 0) 0, AV.t (T.ptr [T.bool s2, T.lst 1 e2 d2])] [Blk.box [AV.t (T.bool s), AV.t y]] =
  (gdK none (small 4 d2.length) fun x => some [T.nilp, T.bool s2, T.lst 1 false d2]) := by kernel_rfl
theorem e50 (O : Orc) (s : Bool) (y : T) (s2 : Bool) (e2 : Bool) (d2 : List (List T)) : stepO PROG ann O (Key.call 125) [AV.ref (Id.c 0) 0, AV.t (T.ptr [T.bool s2, T.lst 1 e2 d2])] [Blk.box [AV.t (T.bool s), AV.t y]] =
  (gdK none
    (O (Key.call 108) [AV.ref (Id.c 0) 0, AV.t (T.ptr [T.bool s2, T.lst 1 e2 d2])]
      [Blk.box [AV.t (T.bool s), AV.t y]])
    fun l =>
    gdK none l.head? fun x =>
      gdK none (List.drop 1 l).head? fun x =>
        gdK none x.bool? fun b =>
          gdK none (List.drop 1 l).tail.head? fun x =>
            gdK none (T.lst? 1 x) fun p =>
              some
                [T.nilp, T.bool (bif !b then decide ((↑p.snd.length : Int) > (0 : Int)) else false),
                  T.lst 1 p.fst p.snd]) := by kernel_rfl
theorem e49 (O : Orc) (s : Bool) (y : T) (s2 : Bool) (e2 : Bool) (d2 : List (List T)) (s3 : Bool) (e3 : Bool) (d3 : List (List T)) : stepO PROG ann O (Key.call 110) [AV.ref (Id.c 0) 0, AV.t (T.ptr [T.bool s2, T.lst 1 e2 d2]), AV.t (T.ptr [T.bool s3, T.lst 1 e3 d3])] [Blk.box [AV.t (T.bool s), AV.t y]] =
  (bif s2 == s3 then
    gdK none (O (Key.call 123) [AV.t (T.lst 1 e2 d2), AV.t (T.lst 1 e3 d3)] []) fun l =>
      gdK none l.head? fun x =>
        gdK none (T.lst? 1 x) fun p =>
          gdK none
            (O (Key.call 121) [AV.ref (Id.c 0) 0]
              [Blk.box [AV.t (T.bool s2), AV.own (Id.c 1)], Blk.sl false 1 p.fst p.snd])
            fun l =>
            gdK none l.head? fun x =>
              gdK none (List.drop 1 l).head? fun x =>
                gdK none x.bool? fun b =>
                  gdK none (List.drop 1 l).tail.head? fun x =>
                    gdK none (T.lst? 1 x) fun p => some [T.nilp, T.bool b, T.lst 1 p.fst p.snd]
  else
    gdK none
      (O (Key.call 120)
        [AV.t (T.ptr [T.bool s2, T.lst 1 e2 d2]), AV.t (T.ptr [T.bool s3, T.lst 1 e3 d3])] [])
      fun l =>
      gdK none l.head? fun x =>
        gdK none (T.int? IntKind.i64 x) fun n =>
          bif decide (n ≥ (0 : Int)) then
            gdK none (O (Key.call 124) [AV.t (T.lst 1 e2 d2), AV.t (T.lst 1 e3 d3)] []) fun l =>
              gdK none l.head? fun x =>
                gdK none (T.lst? 1 x) fun p =>
                  gdK none
                    (O (Key.call 121) [AV.ref (Id.c 0) 0]
                      [Blk.box [AV.t (T.bool s2), AV.own (Id.c 1)], Blk.sl false 1 p.fst p.snd])
                    fun l =>
                    gdK none l.head? fun x =>
                      gdK none (List.drop 1 l).head? fun x =>
                        gdK none x.bool? fun b =>
                          gdK none (List.drop 1 l).tail.head? fun x =>
                            gdK none (T.lst? 1 x) fun p => some [T.nilp, T.bool b, T.lst 1 p.fst p.snd]
          else
            gdK none (O (Key.call 124) [AV.t (T.lst 1 e3 d3), AV.t (T.lst 1 e2 d2)] []) fun l =>
              gdK none l.head? fun x =>
                gdK none (T.lst? 1 x) fun p =>
                  gdK none
                    (O (Key.call 121) [AV.ref (Id.c 0) 0]
                      [Blk.box [AV.t (T.bool s3), AV.own (Id.c 1)], Blk.sl false 1 p.fst p.snd])
                    fun l =>
                    gdK none l.head? fun x =>
                      gdK none (List.drop 1 l).head? fun x =>
                        gdK none x.bool? fun b =>
                          gdK none (List.drop 1 l).tail.head? fun x =>
                            gdK none (T.lst? 1 x) fun p => some [T.nilp, T.bool b, T.lst 1 p.fst p.snd]) := by kernel_rfl
theorem e49z (O : Orc) (s : Bool) (e : Bool) (d : List (List T)) (s3 : Bool) (e3 : Bool) (d3 : List (List T)) : stepO PROG ann O (Key.call 110) [AV.ref (Id.c 0) 0, AV.ref (Id.c 0) 0, AV.t (T.ptr [T.bool s3, T.lst 1 e3 d3])] [Blk.box [AV.t (T.bool s), AV.t (T.lst 1 e d)]] =
  (bif s == s3 then
    gdK none (O (Key.call 123) [AV.t (T.lst 1 e d), AV.t (T.lst 1 e3 d3)] []) fun l =>
      gdK none l.head? fun x =>
        gdK none (T.lst? 1 x) fun p =>
          gdK none
            (O (Key.call 121) [AV.ref (Id.c 0) 0]
              [Blk.box [AV.t (T.bool s), AV.own (Id.c 1)], Blk.sl false 1 p.fst p.snd])
            fun l =>
            gdK none l.head? fun x =>
              gdK none (List.drop 1 l).head? fun x =>
                gdK none x.bool? fun b =>
                  gdK none (List.drop 1 l).tail.head? fun x =>
                    gdK none (T.lst? 1 x) fun p => some [T.nilp, T.bool b, T.lst 1 p.fst p.snd]
  else
    gdK none
      (O (Key.call 120)
        [AV.t (T.ptr [T.bool s, T.lst 1 e d]), AV.t (T.ptr [T.bool s3, T.lst 1 e3 d3])] [])
      fun l =>
      gdK none l.head? fun x =>
        gdK none (T.int? IntKind.i64 x) fun n =>
          bif decide (n ≥ (0 : Int)) then
            gdK none (O (Key.call 124) [AV.t (T.lst 1 e d), AV.t (T.lst 1 e3 d3)] []) fun l =>
              gdK none l.head? fun x =>
                gdK none (T.lst? 1 x) fun p =>
                  gdK none
                    (O (Key.call 121) [AV.ref (Id.c 0) 0]
                      [Blk.box [AV.t (T.bool s), AV.own (Id.c 1)], Blk.sl false 1 p.fst p.snd])
                    fun l =>
                    gdK none l.head? fun x =>
                      gdK none (List.drop 1 l).head? fun x =>
                        gdK none x.bool? fun b =>
                          gdK none (List.drop 1 l).tail.head? fun x =>
                            gdK none (T.lst? 1 x) fun p => some [T.nilp, T.bool b, T.lst 1 p.fst p.snd]
          else
            gdK none (O (Key.call 124) [AV.t (T.lst 1 e3 d3), AV.t (T.lst 1 e d)] []) fun l =>
              gdK none l.head? fun x =>
                gdK none (T.lst? 1 x) fun p =>
                  gdK none
                    (O (Key.call 121) [AV.ref (Id.c 0) 0]
                      [Blk.box [AV.t (T.bool s3), AV.own (Id.c 1)], Blk.sl false 1 p.fst p.snd])
                    fun l =>
                    gdK none l.head? fun x =>
                      gdK none (List.drop 1 l).head? fun x =>
                        gdK none x.bool? fun b =>
                          gdK none (List.drop 1 l).tail.head? fun x =>
                            gdK none (T.lst? 1 x) fun p => some [T.nilp, T.bool b, T.lst 1 p.fst p.snd]) := by kernel_rfl
theorem e36 (O : Orc) (s : Bool) (y : T) (s2 : Bool) (e2 : Bool) (d2 : List (List T)) (s3 : Bool) (e3 : Bool) (d3 : List (List T)) : stepO PROG ann O (Key.call 111) [AV.ref (Id.c 0) 0, AV.t (T.ptr [T.bool s2, T.lst 1 e2 d2]), AV.t (T.ptr [T.bool s3, T.lst 1 e3 d3])] [Blk.box [AV.t (T.bool s), AV.t y]] =
  (gdK none
    (O (Key.call 125) [AV.ref (Id.c 0) 0, AV.t (T.ptr [T.bool s3, T.lst 1 e3 d3])]
      [Blk.box [AV.t (T.bool false), AV.t (T.emp true)]])
    fun l =>
    gdK none l.head? fun x =>
      gdK none (List.drop 1 l).head? fun x =>
        gdK none x.bool? fun b =>
          gdK none (List.drop 1 l).tail.head? fun x =>
            gdK none (T.lst? 1 x) fun p =>
              gdK none
                (O (Key.call 110)
                  [AV.ref (Id.c 0) 0, AV.t (T.ptr [T.bool s2, T.lst 1 e2 d2]),
                    AV.t (T.ptr [T.bool b, T.lst 1 p.fst p.snd])]
                  [Blk.box [AV.t (T.bool s), AV.t y]])
                fun l =>
                gdK none l.head? fun x =>
                  gdK none (List.drop 1 l).head? fun x =>
                    gdK none x.bool? fun b =>
                      gdK none (List.drop 1 l).tail.head? fun x =>
                        gdK none (T.lst? 1 x) fun p => some [T.nilp, T.bool b, T.lst 1 p.fst p.snd]) := by kernel_rfl
theorem e36z (O : Orc) (s : Bool) (e : Bool) (d : List (List T)) (s3 : Bool) (e3 : Bool) (d3 : List (List T)) : stepO PROG ann O (Key.call 111) [AV.ref (Id.c 0) 0, AV.ref (Id.c 0) 0, AV.t (T.ptr [T.bool s3, T.lst 1 e3 d3])] [Blk.box [AV.t (T.bool s), AV.t (T.lst 1 e d)]] =
  (gdK none
    (O (Key.call 125) [AV.ref (Id.c 0) 0, AV.t (T.ptr [T.bool s3, T.lst 1 e3 d3])]
      [Blk.box [AV.t (T.bool false), AV.t (T.emp true)]])
    fun l =>
    gdK none l.head? fun x =>
      gdK none (List.drop 1 l).head? fun x =>
        gdK none x.bool? fun b =>
          gdK none (List.drop 1 l).tail.head? fun x =>
            gdK none (T.lst? 1 x) fun p =>
              gdK none
                (O (Key.call 110)
                  [AV.ref (Id.c 0) 0, AV.ref (Id.c 0) 0,
                    AV.t (T.ptr [T.bool b, T.lst 1 p.fst p.snd])]
                  [Blk.box [AV.t (T.bool s), AV.t (T.lst 1 e d)]])
                fun l =>
                gdK none l.head? fun x =>
                  gdK none (List.drop 1 l).head? fun x =>
                    gdK none x.bool? fun b =>
                      gdK none (List.drop 1 l).tail.head? fun x =>
                        gdK none (T.lst? 1 x) fun p => some [T.nilp, T.bool b, T.lst 1 p.fst p.snd]) := by kernel_rfl
theorem e38 (O : Orc) (s : Bool) (y : T) (s2 : Bool) (e2 : Bool) (d2 : List (List T)) (s3 : Bool) (e3 : Bool) (d3 : List (List T)) : stepO PROG ann O (Key.call 78) [AV.ref (Id.c 0) 0, AV.t (T.ptr [T.bool s2, T.lst 1 e2 d2]), AV.t (T.ptr [T.bool s3, T.lst 1 e3 d3])] [Blk.box [AV.t (T.bool s), AV.t y]] =
  (gdK none
    (O (Key.call 97)
      [AV.ref (Id.c 0) 0, AV.t (T.ptr [T.bool s2, T.lst 1 e2 d2]),
        AV.t (T.ptr [T.bool s3, T.lst 1 e3 d3]), AV.ref (Id.c 1) 0]
      [Blk.box [AV.t (T.bool s), AV.t y], Blk.box [AV.t (T.bool false), AV.t (T.emp true)]])
    fun l =>
    gdK none l.head? fun x =>
      gdK none l.tail.head? fun x =>
        gdK none (List.drop 2 l).head? fun x =>
          gdK none x.bool? fun b =>
            gdK none (List.drop 2 l).tail.head? fun x =>
              gdK none (T.lst? 1 x) fun p =>
                gdK none (List.drop 2 (List.drop 2 l)).head? fun x =>
                  gdK none x.bool? fun b_1 =>
                    gdK none (List.drop 2 (List.drop 2 l)).tail.head? fun x =>
                      gdK none (T.lst? 1 x) fun p_1 => some [T.nilp, T.bool b, T.lst 1 p.fst p.snd]) := by kernel_rfl
theorem e52 (O : Orc) (s : Bool) (y : T) (s2 : Bool) (e2 : Bool) (d2 : List (List T)) (s3 : Bool) (e3 : Bool) (d3 : List (List T)) (s4 : Bool) (y4 : T) : stepO PROG ann O (Key.call 97) [AV.ref (Id.c 0) 0, AV.t (T.ptr [T.bool s2, T.lst 1 e2 d2]), AV.t (T.ptr [T.bool s3, T.lst 1 e3 d3]), AV.ref (Id.c 1) 0] [Blk.box [AV.t (T.bool s), AV.t y], Blk.box [AV.t (T.bool s4), AV.t y4]] =
  (gdK none
    (O (Key.call 108) [AV.ref (Id.c 0) 0, AV.t (T.ptr [T.bool s3, T.lst 1 e3 d3])]
      [Blk.box [AV.t (T.bool false), AV.t (T.emp true)]])
    fun l =>
    gdK none l.head? fun x =>
      gdK none (List.drop 1 l).head? fun x =>
        gdK none x.bool? fun b =>
          gdK none (List.drop 1 l).tail.head? fun x =>
            gdK none (T.lst? 1 x) fun p =>
              gdK none
                (O (Key.call 109)
                  [AV.ref (Id.c 0) 0, AV.t (T.ptr [T.bool s2, T.lst 1 e2 d2]),
                    AV.t (T.ptr [T.bool s3, T.lst 1 e3 d3]), AV.ref (Id.c 1) 0]
                  [Blk.box [AV.t (T.bool s), AV.t y], Blk.box [AV.t (T.bool s4), AV.t y4]])
                fun l =>
                gdK none l.head? fun x =>
                  gdK none l.tail.head? fun x =>
                    gdK none (List.drop 2 l).head? fun x =>
                      gdK none x.bool? fun b_1 =>
                        gdK none (List.drop 2 l).tail.head? fun x =>
                          gdK none (T.lst? 1 x) fun p_1 =>
                            gdK none (List.drop 2 (List.drop 2 l)).head? fun x =>
                              gdK none x.bool? fun b_2 =>
                                gdK none (List.drop 2 (List.drop 2 l)).tail.head? fun x =>
                                  gdK none (T.lst? 1 x) fun p_2 =>
                                    bif b_2 then
                                      bif b then
                                        gdK none (O (Key.call 79) [AV.t (T.int IntKind.i64 (1 : Int))] [])
                                          fun l =>
                                          gdK none l.head? fun x =>
                                            gdK none
                                              (O (Key.call 110)
                                                [AV.ref (Id.c 0) 0, AV.ref (Id.c 0) 0,
                                                  AV.t x]
                                                [Blk.box [AV.t (T.bool b_1), AV.t (T.lst 1 p_1.fst p_1.snd)]])
                                              fun l =>
                                              gdK none l.head? fun x =>
                                                gdK none (List.drop 1 l).head? fun x =>
                                                  gdK none x.bool? fun b_3 =>
                                                    gdK none (List.drop 1 l).tail.head? fun x =>
                                                      gdK none (T.lst? 1 x) fun p_3 =>
                                                        gdK none
                                                          (O (Key.call 111)
                                                            [AV.ref (Id.c 0) 0,
                                                              AV.ref (Id.c 0) 0,
                                                              AV.t (T.ptr [T.bool b, T.lst 1 p.fst p.snd])]
                                                            [Blk.box
                                                                [AV.t (T.bool b_2),
                                                                  AV.t (T.lst 1 p_2.fst p_2.snd)]])
                                                          fun l =>
                                                          gdK none l.head? fun x =>
                                                            gdK none (List.drop 1 l).head? fun x =>
                                                              gdK none x.bool? fun b =>
                                                                gdK none (List.drop 1 l).tail.head? fun x =>
                                                                  gdK none (T.lst? 1 x) fun p =>
                                                                    some
                                                                      [T.nilp, T.nilp, T.bool b_3,
                                                                        T.lst 1 p_3.fst p_3.snd, T.bool b,
                                                                        T.lst 1 p.fst p.snd]
                                      else
                                        gdK none (O (Key.call 79) [AV.t (T.int IntKind.i64 (1 : Int))] [])
                                          fun l =>
                                          gdK none l.head? fun x =>
                                            gdK none
                                              (O (Key.call 111)
                                                [AV.ref (Id.c 0) 0, AV.ref (Id.c 0) 0,
                                                  AV.t x]
                                                [Blk.box [AV.t (T.bool b_1), AV.t (T.lst 1 p_1.fst p_1.snd)]])
                                              fun l =>
                                              gdK none l.head? fun x =>
                                                gdK none (List.drop 1 l).head? fun x =>
                                                  gdK none x.bool? fun b_3 =>
                                                    gdK none (List.drop 1 l).tail.head? fun x =>
                                                      gdK none (T.lst? 1 x) fun p_3 =>
                                                        gdK none
                                                          (O (Key.call 110)
                                                            [AV.ref (Id.c 0) 0,
                                                              AV.ref (Id.c 0) 0,
                                                              AV.t (T.ptr [T.bool b, T.lst 1 p.fst p.snd])]
                                                            [Blk.box
                                                                [AV.t (T.bool b_2),
                                                                  AV.t (T.lst 1 p_2.fst p_2.snd)]])
                                                          fun l =>
                                                          gdK none l.head? fun x =>
                                                            gdK none (List.drop 1 l).head? fun x =>
                                                              gdK none x.bool? fun b =>
                                                                gdK none (List.drop 1 l).tail.head? fun x =>
                                                                  gdK none (T.lst? 1 x) fun p =>
                                                                    some
                                                                      [T.nilp, T.nilp, T.bool b_3,
                                                                        T.lst 1 p_3.fst p_3.snd, T.bool b,
                                                                        T.lst 1 p.fst p.snd]
                                    else
                                      some
                                        [T.nilp, T.nilp, T.bool b_1, T.lst 1 p_1.fst p_1.snd, T.bool b_2,
                                          T.lst 1 p_2.fst p_2.snd]) := by kernel_rfl
theorem e70 (O : Orc) (s : Bool) (y : T) (s2 : Bool) (e2 : Bool) (d2 : List (List T)) (s3 : Bool) (e3 : Bool) (d3 : List (List T)) (s4 : Bool) (y4 : T) : stepO PROG ann O (Key.call 109) [AV.ref (Id.c 0) 0, AV.t (T.ptr [T.bool s2, T.lst 1 e2 d2]), AV.t (T.ptr [T.bool s3, T.lst 1 e3 d3]), AV.ref (Id.c 1) 0] [Blk.box [AV.t (T.bool s), AV.t y], Blk.box [AV.t (T.bool s4), AV.t y4]] =
  (gdK none
    (O (Key.call 120)
      [AV.t (T.ptr [T.bool s2, T.lst 1 e2 d2]), AV.t (T.ptr [T.bool s3, T.lst 1 e3 d3])] [])
    fun l =>
    gdK none l.head? fun x =>
      gdK none (T.int? IntKind.i64 x) fun n =>
        bif decide (n < (0 : Int)) then
          gdK none
            (O (Key.call 108) [AV.ref (Id.c 0) 0, AV.t (T.ptr [T.bool s2, T.lst 1 e2 d2])]
              [Blk.box [AV.t (T.bool s4), AV.t y4]])
            fun l =>
            gdK none l.head? fun x =>
              gdK none (List.drop 1 l).head? fun x =>
                gdK none x.bool? fun b =>
                  gdK none (List.drop 1 l).tail.head? fun x =>
                    gdK none (T.lst? 1 x) fun p =>
                      gdK none
                        (O (Key.call 98) [AV.ref (Id.c 0) 0, AV.t (T.int IntKind.i64 (0 : Int))]
                          [Blk.box [AV.t (T.bool s), AV.t y]])
                        fun l =>
                        gdK none l.head? fun x =>
                          gdK none (List.drop 1 l).head? fun x =>
                            gdK none x.bool? fun b_1 =>
                              gdK none (List.drop 1 l).tail.head? fun x =>
                                gdK none (T.lst? 1 x) fun p_1 =>
                                  some
                                    [T.nilp, T.nilp, T.bool b_1, T.lst 1 p_1.fst p_1.snd, T.bool b,
                                      T.lst 1 p.fst p.snd]
        else
          bif decide ((↑d2.length : Int) < (3 : Int)) then
            gdK none (O (Key.call 99) [AV.t (T.ptr [T.bool s2, T.lst 1 e2 d2])] []) fun l =>
              gdK none l.head? fun x =>
                gdK none (T.int? IntKind.u64 x) fun n =>
                  gdK none (O (Key.call 99) [AV.t (T.ptr [T.bool s3, T.lst 1 e3 d3])] []) fun l =>
                    gdK none l.head? fun x =>
                      gdK none (T.int? IntKind.u64 x) fun n_1 =>
                        gdK none (if n_1 = (0 : Int) then none else some ()) fun x =>
                          gdK none
                            (O (Key.call 112)
                              [AV.ref (Id.c 0) 0,
                                AV.t (T.int IntKind.u64 (IntKind.u64.wrap (n.tdiv n_1)))]
                              [Blk.box [AV.t (T.bool s), AV.t y]])
                            fun l =>
                            gdK none l.head? fun x =>
                              gdK none (List.drop 1 l).head? fun x =>
                                gdK none x.bool? fun b =>
                                  gdK none (List.drop 1 l).tail.head? fun x =>
                                    gdK none (T.lst? 1 x) fun p =>
                                      gdK none (if n_1 = (0 : Int) then none else some ()) fun x =>
                                        gdK none
                                          (O (Key.call 112)
                                            [AV.ref (Id.c 0) 0, AV.t (T.int IntKind.u64 (n.tmod n_1))]
                                            [Blk.box [AV.t (T.bool s4), AV.t y4]])
                                          fun l =>
                                          gdK none l.head? fun x =>
                                            gdK none (List.drop 1 l).head? fun x =>
                                              gdK none x.bool? fun b =>
                                                gdK none (List.drop 1 l).tail.head? fun x =>
                                                  gdK none (T.lst? 1 x) fun p_1 =>
                                                    gdK none
                                                      (O (Key.call 121) [AV.ref (Id.c 0) 0]
                                                        [Blk.box
                                                            [AV.t (T.bool !s2 == s3),
                                                              AV.t (T.lst 1 p.fst p.snd)]])
                                                      fun l =>
                                                      gdK none l.head? fun x =>
                                                        gdK none (List.drop 1 l).head? fun x =>
                                                          gdK none x.bool? fun b =>
                                                            gdK none (List.drop 1 l).tail.head? fun x =>
                                                              gdK none (T.lst? 1 x) fun p =>
                                                                gdK none
                                                                  (O (Key.call 121)
                                                                    [AV.ref (Id.c 0) 0]
                                                                    [Blk.box
                                                                        [AV.t (T.bool s2),
                                                                          AV.t (T.lst 1 p_1.fst p_1.snd)]])
                                                                  fun l =>
                                                                  gdK none l.head? fun x =>
                                                                    gdK none (List.drop 1 l).head? fun x =>
                                                                      gdK none x.bool? fun b_1 =>
                                                                        gdK none (List.drop 1 l).tail.head?
                                                                          fun x =>
                                                                          gdK none (T.lst? 1 x) fun p_2 =>
                                                                            some
                                                                              [T.nilp, T.nilp, T.bool b,
                                                                                T.lst 1 p.fst p.snd, T.bool b_1,
                                                                                T.lst 1 p_2.fst p_2.snd]
          else
            gdK none (O (Key.call 122) [AV.t (T.lst 1 e2 d2), AV.t (T.lst 1 e3 d3)] []) fun l =>
              gdK none l.head? fun x =>
                gdK none (T.lst? 1 x) fun p =>
                  gdK none l.tail.head? fun x =>
                    gdK none (T.lst? 1 x) fun p_1 =>
                      gdK none
                        (O (Key.call 121) [AV.ref (Id.c 0) 0]
                          [Blk.box [AV.t (T.bool !s2 == s3), AV.own (Id.c 1)],
                            Blk.sl false 1 p.fst p.snd])
                        fun l =>
                        gdK none l.head? fun x =>
                          gdK none (List.drop 1 l).head? fun x =>
                            gdK none x.bool? fun b =>
                              gdK none (List.drop 1 l).tail.head? fun x =>
                                gdK none (T.lst? 1 x) fun p =>
                                  gdK none
                                    (O (Key.call 121) [AV.ref (Id.c 0) 0]
                                      [Blk.box [AV.t (T.bool s2), AV.own (Id.c 1)],
                                        Blk.sl false 1 p_1.fst p_1.snd])
                                    fun l =>
                                    gdK none l.head? fun x =>
                                      gdK none (List.drop 1 l).head? fun x =>
                                        gdK none x.bool? fun b_1 =>
                                          gdK none (List.drop 1 l).tail.head? fun x =>
                                            gdK none (T.lst? 1 x) fun p_2 =>
                                              some
                                                [T.nilp, T.nilp, T.bool b, T.lst 1 p.fst p.snd, T.bool b_1,
                                                  T.lst 1 p_2.fst p_2.snd]) := by kernel_rfl
theorem e66 (O : Orc) (ex : Bool) (x : List (List T)) (ey : Bool) (y : List (List T)) : stepO PROG ann O (Key.call 123) [AV.t (T.lst 1 ex x), AV.t (T.lst 1 ey y)] [] =
  (bif decide ((↑x.length : Int) < (↑y.length : Int)) then
    gdK none (mkOk (IntKind.i64.wrap ((↑y.length : Int) + (1 : Int))) (IntKind.i64.wrap ((↑y.length : Int) + (1 : Int))))
      fun x_1 =>
      O
        K66n6
        [AV.t (T.lst 1 ey y), AV.t (T.lst 1 ex x), AV.own (Id.c 0),
          AV.t (T.int IntKind.u64 (0 : Int)), AV.t (T.lst 1 ey y), AV.t (T.int IntKind.i64 (↑y.length : Int)),
          AV.t (T.int IntKind.i64 (0 : Int))]
        [Blk.sl false 1 false
            (List.replicate (IntKind.i64.wrap ((↑y.length : Int) + (1 : Int))).toNat [T.int IntKind.u32 (0 : Int)])]
  else
    gdK none (mkOk (IntKind.i64.wrap ((↑x.length : Int) + (1 : Int))) (IntKind.i64.wrap ((↑x.length : Int) + (1 : Int))))
      fun x_1 =>
      O
        K66n6
        [AV.t (T.lst 1 ex x), AV.t (T.lst 1 ey y), AV.own (Id.c 0),
          AV.t (T.int IntKind.u64 (0 : Int)), AV.t (T.lst 1 ex x), AV.t (T.int IntKind.i64 (↑x.length : Int)),
          AV.t (T.int IntKind.i64 (0 : Int))]
        [Blk.sl false 1 false
            (List.replicate (IntKind.i64.wrap ((↑x.length : Int) + (1 : Int))).toNat [T.int IntKind.u32 (0 : Int)])]) := by kernel_rfl
theorem e66n6 (O : Orc) (ev0 : Bool) (v0 : List (List T)) (ev1 : Bool) (v1 : List (List T)) (v6 : Int) (ev20 : Bool) (v20 : List (List T)) (v21 : Int) (v22 : Int) (ec0 : Bool) (c0 : List (List T)) : stepO PROG ann O K66n6 [(AV.t (T.lst 1 ev0 v0)), (AV.t (T.lst 1 ev1 v1)), (AV.own (Id.c 0)), (AV.t (T.int IntKind.u64 v6)), (AV.t (T.lst 1 ev20 v20)), (AV.t (T.int IntKind.i64 v21)), (AV.t (T.int IntKind.i64 v22))] [(Blk.sl false 1 ec0 c0)] =
  (bif decide (v22 < v21) then
    gdK none (if (0 : Int) ≤ v22 ∧ v22 < (↑v20.length : Int) then some () else none) fun x =>
      gdK none v20[v22.toNat]? fun l =>
        gdK none l.head? fun x =>
          gdK none (T.int? IntKind.u32 x) fun n =>
            bif decide (v22 < (↑v1.length : Int)) then
              gdK none (if (0 : Int) ≤ v22 ∧ v22 < (↑v1.length : Int) then some () else none) fun x =>
                gdK none v1[v22.toNat]? fun l =>
                  gdK none l.head? fun x =>
                    gdK none (T.int? IntKind.u32 x) fun n_1 =>
                      gdK none (if (0 : Int) ≤ v22 ∧ v22 < (↑c0.length : Int) then some () else none) fun x =>
                        gdK none
                          (storeIn v22.toNat 0
                            [T.int IntKind.u32
                                (IntKind.u32.wrap
                                  (IntKind.u64.wrap (IntKind.u64.wrap (v6 + IntKind.u64.wrap n) + IntKind.u64.wrap n_1)))]
                            c0)
                          fun l =>
                          O
                            K66n6
                            [AV.t (T.lst 1 ev0 v0), AV.t (T.lst 1 ev1 v1), AV.own (Id.c 0),
                              AV.t
                                (T.int IntKind.u64
                                  ((IntKind.u64.wrap
                                        (IntKind.u64.wrap (v6 + IntKind.u64.wrap n) + IntKind.u64.wrap n_1)).fdiv
                                    ((2 : Int) ^ 32))),
                              AV.t (T.lst 1 ev20 v20), AV.t (T.int IntKind.i64 v21),
                              AV.t (T.int IntKind.i64 (IntKind.i64.wrap (v22 + (1 : Int))))]
                            [Blk.sl false 1 ec0 l]
            else
              gdK none (if (0 : Int) ≤ v22 ∧ v22 < (↑c0.length : Int) then some () else none) fun x =>
                gdK none
                  (storeIn v22.toNat 0
                    [T.int IntKind.u32 (IntKind.u32.wrap (IntKind.u64.wrap (v6 + IntKind.u64.wrap n)))] c0)
                  fun l =>
                  O
                    K66n6
                    [AV.t (T.lst 1 ev0 v0), AV.t (T.lst 1 ev1 v1), AV.own (Id.c 0),
                      AV.t
                        (T.int IntKind.u64 ((IntKind.u64.wrap (v6 + IntKind.u64.wrap n)).fdiv ((2 : Int) ^ 32))),
                      AV.t (T.lst 1 ev20 v20), AV.t (T.int IntKind.i64 v21),
                      AV.t (T.int IntKind.i64 (IntKind.i64.wrap (v22 + (1 : Int))))]
                    [Blk.sl false 1 ec0 l]
  else
    gdK none (if (0 : Int) ≤ (↑v0.length : Int) ∧ (↑v0.length : Int) < (↑c0.length : Int) then some () else none) fun x =>
      gdK none (storeIn (↑v0.length : Int).toNat 0 [T.int IntKind.u32 (IntKind.u32.wrap v6)] c0) fun l =>
        some [T.lst 1 ec0 l]) := by kernel_rfl
theorem e68 (O : Orc) (ex : Bool) (x : List (List T)) (ey : Bool) (y : List (List T)) : stepO PROG ann O (Key.call 124) [AV.t (T.lst 1 ex x), AV.t (T.lst 1 ey y)] [] =
  (gdK none (mkOk (↑x.length : Int) (↑x.length : Int)) fun x_1 =>
    O
      K68n4
      [AV.t (T.lst 1 ey y), AV.own (Id.c 0), AV.t (T.int IntKind.u64 (0 : Int)),
        AV.t (T.lst 1 ex x), AV.t (T.int IntKind.i64 (↑x.length : Int)), AV.t (T.int IntKind.i64 (0 : Int))]
      [Blk.sl false 1 false (List.replicate (↑x.length : Int).toNat [T.int IntKind.u32 (0 : Int)])]) := by kernel_rfl
theorem e68n4 (O : Orc) (ev1 : Bool) (v1 : List (List T)) (v6 : Int) (ev13 : Bool) (v13 : List (List T)) (v14 : Int) (v15 : Int) (ec0 : Bool) (c0 : List (List T)) : stepO PROG ann O K68n4 [(AV.t (T.lst 1 ev1 v1)), (AV.own (Id.c 0)), (AV.t (T.int IntKind.u64 v6)), (AV.t (T.lst 1 ev13 v13)), (AV.t (T.int IntKind.i64 v14)), (AV.t (T.int IntKind.i64 v15))] [(Blk.sl false 1 ec0 c0)] =
  (bif decide (v15 < v14) then
    gdK none (if (0 : Int) ≤ v15 ∧ v15 < (↑v13.length : Int) then some () else none) fun x =>
      gdK none v13[v15.toNat]? fun l =>
        gdK none l.head? fun x =>
          gdK none (T.int? IntKind.u32 x) fun n =>
            bif decide (v15 < (↑v1.length : Int)) then
              gdK none (if (0 : Int) ≤ v15 ∧ v15 < (↑v1.length : Int) then some () else none) fun x =>
                gdK none v1[v15.toNat]? fun l =>
                  gdK none l.head? fun x =>
                    gdK none (T.int? IntKind.u32 x) fun n_1 =>
                      gdK none (if (0 : Int) ≤ v15 ∧ v15 < (↑c0.length : Int) then some () else none) fun x =>
                        gdK none
                          (storeIn v15.toNat 0
                            [T.int IntKind.u32
                                (IntKind.u32.wrap
                                  (IntKind.u64.wrap (IntKind.u64.wrap (IntKind.u64.wrap n - v6) - IntKind.u64.wrap n_1)))]
                            c0)
                          fun l =>
                          O
                            K68n4
                            [AV.t (T.lst 1 ev1 v1), AV.own (Id.c 0),
                              AV.t
                                (T.int IntKind.u64
                                  ((IntKind.u64.wrap
                                        (IntKind.u64.wrap (IntKind.u64.wrap n - v6) - IntKind.u64.wrap n_1)).fdiv
                                    ((2 : Int) ^ 63))),
                              AV.t (T.lst 1 ev13 v13), AV.t (T.int IntKind.i64 v14),
                              AV.t (T.int IntKind.i64 (IntKind.i64.wrap (v15 + (1 : Int))))]
                            [Blk.sl false 1 ec0 l]
            else
              gdK none (if (0 : Int) ≤ v15 ∧ v15 < (↑c0.length : Int) then some () else none) fun x =>
                gdK none
                  (storeIn v15.toNat 0
                    [T.int IntKind.u32 (IntKind.u32.wrap (IntKind.u64.wrap (IntKind.u64.wrap n - v6)))] c0)
                  fun l =>
                  O
                    K68n4
                    [AV.t (T.lst 1 ev1 v1), AV.own (Id.c 0),
                      AV.t
                        (T.int IntKind.u64 ((IntKind.u64.wrap (IntKind.u64.wrap n - v6)).fdiv ((2 : Int) ^ 63))),
                      AV.t (T.lst 1 ev13 v13), AV.t (T.int IntKind.i64 v14),
                      AV.t (T.int IntKind.i64 (IntKind.i64.wrap (v15 + (1 : Int))))]
                    [Blk.sl false 1 ec0 l]
  else some [T.lst 1 ec0 c0]) := by kernel_rfl
theorem e67 (O : Orc) (s2 : Bool) (e2 : Bool) (d2 : List (List T)) (s3 : Bool) (e3 : Bool) (d3 : List (List T)) : stepO PROG ann O (Key.call 120) [AV.t (T.ptr [T.bool s2, T.lst 1 e2 d2]), AV.t (T.ptr [T.bool s3, T.lst 1 e3 d3])] [] =
  (bif !(↑d2.length : Int) == (↑d3.length : Int) then
    bif decide ((↑d2.length : Int) < (↑d3.length : Int)) then some [T.int IntKind.i64 (-1 : Int)]
    else some [T.int IntKind.i64 (1 : Int)]
  else
    O
      K67n6
      [AV.t (T.ptr [T.bool s2, T.lst 1 e2 d2]), AV.t (T.ptr [T.bool s3, T.lst 1 e3 d3]),
        AV.t (T.int IntKind.i64 (IntKind.i64.wrap ((↑d2.length : Int) - (1 : Int))))]
      []) := by kernel_rfl
theorem e67n6 (O : Orc) (v0_0 : Bool) (ev0_1 : Bool) (v0_1 : List (List T)) (v1_0 : Bool) (ev1_1 : Bool) (v1_1 : List (List T)) (v5 : Int) : stepO PROG ann O K67n6 [(AV.t (T.ptr [(T.bool v0_0), (T.lst 1 ev0_1 v0_1)])), (AV.t (T.ptr [(T.bool v1_0), (T.lst 1 ev1_1 v1_1)])), (AV.t (T.int IntKind.i64 v5))] [] =
  (bif decide (v5 ≥ (0 : Int)) then
    gdK none (if (0 : Int) ≤ v5 ∧ v5 < (↑v0_1.length : Int) then some () else none) fun x =>
      gdK none v0_1[v5.toNat]? fun l =>
        gdK none l.head? fun x =>
          gdK none (T.int? IntKind.u32 x) fun n =>
            gdK none (if (0 : Int) ≤ v5 ∧ v5 < (↑v1_1.length : Int) then some () else none) fun x =>
              gdK none v1_1[v5.toNat]? fun l =>
                gdK none l.head? fun x =>
                  gdK none (T.int? IntKind.u32 x) fun n_1 =>
                    bif !n == n_1 then
                      gdK none (if (0 : Int) ≤ v5 ∧ v5 < (↑v0_1.length : Int) then some () else none) fun x =>
                        gdK none v0_1[v5.toNat]? fun l =>
                          gdK none l.head? fun x =>
                            gdK none (T.int? IntKind.u32 x) fun n =>
                              gdK none (if (0 : Int) ≤ v5 ∧ v5 < (↑v1_1.length : Int) then some () else none) fun x =>
                                gdK none v1_1[v5.toNat]? fun l =>
                                  gdK none l.head? fun x =>
                                    gdK none (T.int? IntKind.u32 x) fun n_2 =>
                                      bif decide (n < n_2) then some [T.int IntKind.i64 (-1 : Int)]
                                      else some [T.int IntKind.i64 (1 : Int)]
                    else
                      O
                        K67n6
                        [AV.t (T.ptr [T.bool v0_0, T.lst 1 ev0_1 v0_1]),
                          AV.t (T.ptr [T.bool v1_0, T.lst 1 ev1_1 v1_1]),
                          AV.t (T.int IntKind.i64 (IntKind.i64.wrap (v5 - (1 : Int))))]
                        []
  else some [T.int IntKind.i64 (0 : Int)]) := by kernel_rfl
theorem e39 (O : Orc) (s2 : Bool) (e2 : Bool) (d2 : List (List T)) : stepO PROG ann O (Key.call 80) [AV.t (T.ptr [T.bool s2, T.lst 1 e2 d2])] [] =
  (bif s2 then
    gdK none (O (Key.call 99) [AV.t (T.ptr [T.bool s2, T.lst 1 e2 d2])] []) fun l =>
      gdK none l.head? fun x =>
        gdK none (T.int? IntKind.u64 x) fun n =>
          some [T.int IntKind.i64 (IntKind.i64.wrap ((0 : Int) - IntKind.i64.wrap n))]
  else
    gdK none (O (Key.call 99) [AV.t (T.ptr [T.bool s2, T.lst 1 e2 d2])] []) fun l =>
      gdK none l.head? fun x => gdK none (T.int? IntKind.u64 x) fun n => some [T.int IntKind.i64 (IntKind.i64.wrap n)]) := by kernel_rfl
theorem e53 (O : Orc) (a0_0 : Bool) (ea0_1 : Bool) (a0_1 : List (List T)) : stepO PROG ann O (Key.call 99) [(AV.t (T.ptr [(T.bool a0_0), (T.lst 1 ea0_1 a0_1)]))] [] =
  (O
    K53n3
    [AV.t (T.ptr [T.bool a0_0, T.lst 1 ea0_1 a0_1]), AV.t (T.int IntKind.u64 (0 : Int)),
      AV.t (T.int IntKind.i64 (IntKind.i64.wrap (mm false (↑a0_1.length : Int) (2 : Int) - (1 : Int))))]
    []) := by kernel_rfl
theorem e53n3 (O : Orc) (v0_0 : Bool) (ev0_1 : Bool) (v0_1 : List (List T)) (v3 : Int) (v4 : Int) : stepO PROG ann O K53n3 [(AV.t (T.ptr [(T.bool v0_0), (T.lst 1 ev0_1 v0_1)])), (AV.t (T.int IntKind.u64 v3)), (AV.t (T.int IntKind.i64 v4))] [] =
  (bif decide (v4 ≥ (0 : Int)) then
    gdK none (if (0 : Int) ≤ v4 ∧ v4 < (↑v0_1.length : Int) then some () else none) fun x =>
      gdK none v0_1[v4.toNat]? fun l =>
        gdK none l.head? fun x =>
          gdK none (T.int? IntKind.u32 x) fun n =>
            O
              K53n3
              [AV.t (T.ptr [T.bool v0_0, T.lst 1 ev0_1 v0_1]),
                AV.t
                  (T.int IntKind.u64
                    (IntKind.u64.wrap
                      (↑(BitVec.ofInt 64 (IntKind.u64.wrap (v3 * (2 : Int) ^ 32)) |||
                              BitVec.ofInt 64 (IntKind.u64.wrap n)).toNat :
                        Int))),
                AV.t (T.int IntKind.i64 (IntKind.i64.wrap (v4 - (1 : Int))))]
              []
  else some [T.int IntKind.u64 v3]) := by kernel_rfl
end Go.Aev.Wd
