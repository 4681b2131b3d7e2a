/-
  Equations of the functions of fractions.
-/
import Derived.Test.YteigjcdcmgjdeaaSGen
set_option linter.unusedSimpArgs false
set_option linter.unusedVariables false
namespace Go.Aev.Gen
open Go Go.Aev
noncomputable abbrev K54n2m1 : Key := nodeKey PROG 54 true 2 [(0, none), (11, some 0), (12, some 0)] (1, 2)
noncomputable abbrev K54n5m1 : Key := nodeKey PROG 54 true 5 [(0, none), (13, none), (14, none)] (1, 2)
noncomputable abbrev K4n11 : Key := nodeKey PROG 4 true 11 [(1, none), (2, none), (8, none), (9, none), (13, none)] (0, 0)
noncomputable abbrev K16n3 : Key := nodeKey PROG 16 true 3 [(0, none), (4, some 2), (5, none)] (0, 0)
noncomputable abbrev K17n2 : Key := nodeKey PROG 17 true 2 [(0, none), (1, none), (5, none)] (0, 0)
noncomputable abbrev K4n18 : Key := nodeKey PROG 4 true 18 [(1, none), (2, none), (8, none), (14, none)] (0, 0)
noncomputable abbrev K28n3 : Key := nodeKey PROG 28 true 3 [(1, none), (4, none), (5, none), (6, none)] (0, 0)
noncomputable abbrev K41n3 : Key := nodeKey PROG 41 true 3 [(0, none), (1, none), (5, some 0), (6, none)] (0, 0)
theorem e69p (O : Orc) (s : Bool) (y : T) (s2 : Bool) (e2 : Bool) (d2 : List (List T)) (r2 : List T) : stepO PROG ann O (Key.call 69) [AV.ref (Id.c 0) 0, AV.t (T.ptr (T.bool s2 :: T.lst 1 e2 d2 :: r2))] [Blk.box [AV.t (T.bool s), AV.t y]] =
  (gdK none (small 4 d2.length) fun x => some [T.nilp, T.bool s2, T.lst 1 false d2]) := by kernel_rfl
theorem e69a (O : Orc) (s : Bool) (y : T) (t : Bool) (u : T) (s2 : Bool) (e2 : Bool) (d2 : List (List T)) : stepO PROG ann O (Key.call 69) [AV.ref (Id.c 0) 0, AV.t (T.ptr [T.bool s2, T.lst 1 e2 d2])] [Blk.box [AV.t (T.bool s), AV.t y, AV.t (T.bool t), AV.t u]] =
  (gdK none (small 4 d2.length) fun x => some [T.nilp, T.bool s2, T.lst 1 false d2, T.bool t, u]) := by kernel_rfl
theorem e69b (O : Orc) (s : Bool) (y : T) (t : Bool) (u : T) (s2 : Bool) (e2 : Bool) (d2 : List (List T)) : stepO PROG ann O (Key.call 69) [AV.ref (Id.c 0) 2, AV.t (T.ptr [T.bool s2, T.lst 1 e2 d2])] [Blk.box [AV.t (T.bool s), AV.t y, AV.t (T.bool t), AV.t u]] =
  (gdK none (small 4 d2.length) fun x => some [T.nilp, T.bool s, y, T.bool s2, T.lst 1 false d2]) := by kernel_rfl
theorem e69z (O : Orc) (s : Bool) (e : Bool) (d : List (List T)) : stepO PROG ann O (Key.call 69) [AV.ref (Id.c 0) 0, AV.ref (Id.c 0) 0] [Blk.box [AV.t (T.bool s), AV.t (T.lst 1 e d)]] =
  (gdK none (small 4 d.length) fun x => some [T.nilp, T.bool s, T.lst 1 false d]) := by kernel_rfl
theorem e50p (O : Orc) (s : Bool) (y : T) (s2 : Bool) (e2 : Bool) (d2 : List (List T)) (r2 : List T) : stepO PROG ann O (Key.call 50) [AV.ref (Id.c 0) 0, AV.t (T.ptr (T.bool s2 :: T.lst 1 e2 d2 :: r2))] [Blk.box [AV.t (T.bool s), AV.t y]] =
  (gdK none
    (O (Key.call 69) [AV.ref (Id.c 0) 0, AV.t (T.ptr (T.bool s2 :: T.lst 1 e2 d2 :: r2))]
      [Blk.box [AV.t (T.bool s), AV.t y]])
    fun l =>
    gdK none l.head? fun x =>
      gdK none (List.drop 1 l).head? fun x =>
        gdK none x.bool? fun b =>
          gdK none (List.drop 1 l).tail.head? fun x =>
            gdK none (T.lst? 1 x) fun p =>
              some
                [T.nilp, T.bool (bif !b then decide ((↑p.snd.length : Int) > (0 : Int)) else false),
                  T.lst 1 p.fst p.snd]) := by kernel_rfl
theorem e50z (O : Orc) (s : Bool) (e : Bool) (d : List (List T)) : stepO PROG ann O (Key.call 50) [AV.ref (Id.c 0) 0, AV.ref (Id.c 0) 0] [Blk.box [AV.t (T.bool s), AV.t (T.lst 1 e d)]] =
  (gdK none
    (O (Key.call 69) [AV.ref (Id.c 0) 0, AV.ref (Id.c 0) 0]
      [Blk.box [AV.t (T.bool s), AV.t (T.lst 1 e d)]])
    fun l =>
    gdK none l.head? fun x =>
      gdK none (List.drop 1 l).head? fun x =>
        gdK none x.bool? fun b =>
          gdK none (List.drop 1 l).tail.head? fun x =>
            gdK none (T.lst? 1 x) fun p =>
              some
                [T.nilp, T.bool (bif !b then decide ((↑p.snd.length : Int) > (0 : Int)) else false),
                  T.lst 1 p.fst p.snd]) := by kernel_rfl
theorem e71 (O : Orc) (s : Bool) (y : T) (s2 : Bool) (e2 : Bool) (d2 : List (List T)) : stepO PROG ann O (Key.call 71) [AV.ref (Id.c 0) 0, AV.t (T.ptr [T.bool s2, T.lst 1 e2 d2])] [Blk.box [AV.t (T.bool s), AV.t y]] =
  (gdK none
    (O (Key.call 69) [AV.ref (Id.c 0) 0, AV.t (T.ptr [T.bool s2, T.lst 1 e2 d2])]
      [Blk.box [AV.t (T.bool s), AV.t y]])
    fun l =>
    gdK none l.head? fun x =>
      gdK none (List.drop 1 l).head? fun x =>
        gdK none x.bool? fun b =>
          gdK none (List.drop 1 l).tail.head? fun x =>
            gdK none (T.lst? 1 x) fun p => some [T.nilp, T.bool false, T.lst 1 p.fst p.snd]) := by kernel_rfl
theorem e72 (O : Orc) (s2 : Bool) (e2 : Bool) (d2 : List (List T)) (r2 : List T) : stepO PROG ann O (Key.call 72) [AV.t (T.ptr (T.bool s2 :: T.lst 1 e2 d2 :: r2))] [] =
  (bif (↑d2.length : Int) == (0 : Int) then some [T.int IntKind.i64 (0 : Int)]
  else bif s2 then some [T.int IntKind.i64 (-1 : Int)] else some [T.int IntKind.i64 (1 : Int)]) := by kernel_rfl
theorem e73 (O : Orc) (s : Bool) (y : T) (s2 : Bool) (e2 : Bool) (d2 : List (List T)) (s3 : Bool) (e3 : Bool) (d3 : List (List T)) : stepO PROG ann O (Key.call 73) [AV.ref (Id.c 0) 0, AV.t (T.ptr [T.bool s2, T.lst 1 e2 d2]), AV.t (T.ptr [T.bool s3, T.lst 1 e3 d3])] [Blk.box [AV.t (T.bool s), AV.t y]] =
  (gdK none
    (O (Key.call 52)
      [AV.ref (Id.c 0) 0, AV.t (T.ptr [T.bool s2, T.lst 1 e2 d2]),
        AV.t (T.ptr [T.bool s3, T.lst 1 e3 d3]), AV.ref (Id.c 1) 0]
      [Blk.box [AV.t (T.bool false), AV.t (T.emp true)], Blk.box [AV.t (T.bool s), AV.t y]])
    fun l =>
    gdK none l.head? fun x =>
      gdK none l.tail.head? fun x =>
        gdK none (List.drop 2 l).head? fun x =>
          gdK none x.bool? fun b =>
            gdK none (List.drop 2 l).tail.head? fun x =>
              gdK none (T.lst? 1 x) fun p =>
                gdK none (List.drop 2 (List.drop 2 l)).head? fun x =>
                  gdK none x.bool? fun b =>
                    gdK none (List.drop 2 (List.drop 2 l)).tail.head? fun x =>
                      gdK none (T.lst? 1 x) fun p => some [T.nilp, T.bool b, T.lst 1 p.fst p.snd]) := by kernel_rfl
theorem e77 (O : Orc) (s : Bool) (y : T) (s2 : Bool) (e2 : Bool) (d2 : List (List T)) (s3 : Bool) (e3 : Bool) (d3 : List (List T)) : stepO PROG ann O (Key.call 77) [AV.ref (Id.c 0) 0, AV.t (T.ptr [T.bool s2, T.lst 1 e2 d2]), AV.t (T.ptr [T.bool s3, T.lst 1 e3 d3])] [Blk.box [AV.t (T.bool s), AV.t y]] =
  (gdK none
    (O (Key.call 70)
      [AV.ref (Id.c 0) 0, AV.t (T.ptr [T.bool s2, T.lst 1 e2 d2]),
        AV.t (T.ptr [T.bool s3, T.lst 1 e3 d3]), AV.ref (Id.c 1) 0]
      [Blk.box [AV.t (T.bool s), AV.t y], Blk.box [AV.t (T.bool false), AV.t (T.emp true)]])
    fun l =>
    gdK none l.head? fun x =>
      gdK none l.tail.head? fun x =>
        gdK none (List.drop 2 l).head? fun x =>
          gdK none x.bool? fun b =>
            gdK none (List.drop 2 l).tail.head? fun x =>
              gdK none (T.lst? 1 x) fun p =>
                gdK none (List.drop 2 (List.drop 2 l)).head? fun x =>
                  gdK none x.bool? fun b_1 =>
                    gdK none (List.drop 2 (List.drop 2 l)).tail.head? fun x =>
                      gdK none (T.lst? 1 x) fun p_1 => some [T.nilp, T.bool b, T.lst 1 p.fst p.snd]) := by kernel_rfl
theorem e55 (O : Orc) (s2 : Bool) (e2 : Bool) (d2 : List (List T)) (s3 : Bool) (e3 : Bool) (d3 : List (List T)) : stepO PROG ann O (Key.call 55) [AV.t (T.ptr [T.bool s2, T.lst 1 e2 d2]), AV.t (T.ptr [T.bool s3, T.lst 1 e3 d3])] [] =
  (bif !s2 == s3 then bif s2 then some [T.int IntKind.i64 (-1 : Int)] else some [T.int IntKind.i64 (1 : Int)]
  else
    bif s2 then
      gdK none
        (O (Key.call 67)
          [AV.t (T.ptr [T.bool s3, T.lst 1 e3 d3]), AV.t (T.ptr [T.bool s2, T.lst 1 e2 d2])] [])
        fun l => gdK none l.head? fun x => gdK none (T.int? IntKind.i64 x) fun n => some [T.int IntKind.i64 n]
    else
      gdK none
        (O (Key.call 67)
          [AV.t (T.ptr [T.bool s2, T.lst 1 e2 d2]), AV.t (T.ptr [T.bool s3, T.lst 1 e3 d3])] [])
        fun l => gdK none l.head? fun x => gdK none (T.int? IntKind.i64 x) fun n => some [T.int IntKind.i64 n]) := by kernel_rfl
theorem e54 (O : Orc) (s : Bool) (y : T) (s2 : Bool) (e2 : Bool) (d2 : List (List T)) (s3 : Bool) (e3 : Bool) (d3 : List (List T)) : stepO PROG ann O (Key.call 54) [AV.ref (Id.c 0) 0, AV.t T.nilp, AV.t T.nilp, AV.t (T.ptr [T.bool s2, T.lst 1 e2 d2]), AV.t (T.ptr [T.bool s3, T.lst 1 e3 d3])] [Blk.box [AV.t (T.bool s), AV.t y]] =
  (gdK none
    (O (Key.call 71) [AV.ref (Id.c 0) 0, AV.t (T.ptr [T.bool s2, T.lst 1 e2 d2])]
      [Blk.box [AV.t (T.bool false), AV.t (T.emp true)]])
    fun l =>
    gdK none l.head? fun x =>
      gdK none (List.drop 1 l).head? fun x =>
        gdK none x.bool? fun b =>
          gdK none (List.drop 1 l).tail.head? fun x =>
            gdK none (T.lst? 1 x) fun p =>
              gdK none
                (O (Key.call 71)
                  [AV.ref (Id.c 0) 0, AV.t (T.ptr [T.bool s3, T.lst 1 e3 d3])]
                  [Blk.box [AV.t (T.bool false), AV.t (T.emp true)]])
                fun l =>
                gdK none l.head? fun x =>
                  gdK none (List.drop 1 l).head? fun x =>
                    gdK none x.bool? fun b_1 =>
                      gdK none (List.drop 1 l).tail.head? fun x =>
                        gdK none (T.lst? 1 x) fun p_1 =>
                          O
                            K54n2m1
                            [AV.ref (Id.c 0) 0, AV.t (T.ptr [T.bool b, T.lst 1 p.fst p.snd]),
                              AV.t (T.ptr [T.bool b_1, T.lst 1 p_1.fst p_1.snd])]
                            [Blk.box [AV.t (T.bool s), AV.t y]]) := by kernel_rfl
theorem e54n2 (O : Orc) (v11_0 : Bool) (ev11_1 : Bool) (v11_1 : List (List T)) (v12_0 : Bool) (ev12_1 : Bool) (v12_1 : List (List T)) (c0_0 : Bool) (c0_1 : T) : stepO PROG ann O K54n2m1 [(AV.ref (Id.c 0) 0), (AV.t (T.ptr [(T.bool v11_0), (T.lst 1 ev11_1 v11_1)])), (AV.t (T.ptr [(T.bool v12_0), (T.lst 1 ev12_1 v12_1)]))] [(Blk.box [(AV.t (T.bool c0_0)), (AV.t c0_1)])] =
  (gdK none (O (Key.call 72) [AV.t (T.ptr [T.bool v12_0, T.lst 1 ev12_1 v12_1])] []) fun l =>
    gdK none l.head? fun x =>
      gdK none (T.int? IntKind.i64 x) fun n =>
        bif !n == (0 : Int) then
          bif
              bif decide ((↑v11_1.length : Int) < (3 : Int)) then decide ((↑v12_1.length : Int) < (3 : Int))
              else false then
            gdK none (O (Key.call 53) [AV.t (T.ptr [T.bool v11_0, T.lst 1 ev11_1 v11_1])] []) fun l =>
              gdK none l.head? fun x =>
                gdK none (T.int? IntKind.u64 x) fun n =>
                  gdK none (O (Key.call 53) [AV.t (T.ptr [T.bool v12_0, T.lst 1 ev12_1 v12_1])] [])
                    fun l =>
                    gdK none l.head? fun x =>
                      gdK none (T.int? IntKind.u64 x) fun n_1 =>
                        O
                          K54n5m1
                          [AV.ref (Id.c 0) 0, AV.t (T.int IntKind.u64 n), AV.t (T.int IntKind.u64 n_1)]
                          [Blk.box [AV.t (T.bool c0_0), AV.t c0_1]]
          else
            gdK none
              (O (Key.call 73)
                [AV.ref (Id.c 0) 0, AV.t (T.ptr [T.bool v11_0, T.lst 1 ev11_1 v11_1]),
                  AV.t (T.ptr [T.bool v12_0, T.lst 1 ev12_1 v12_1])]
                [Blk.box [AV.t (T.bool false), AV.t (T.emp true)]])
              fun l =>
              gdK none l.head? fun x =>
                gdK none (List.drop 1 l).head? fun x =>
                  gdK none x.bool? fun b =>
                    gdK none (List.drop 1 l).tail.head? fun x =>
                      gdK none (T.lst? 1 x) fun p =>
                        O
                          K54n2m1
                          [AV.ref (Id.c 0) 0, AV.t (T.ptr [T.bool v12_0, T.lst 1 ev12_1 v12_1]),
                            AV.t (T.ptr [T.bool b, T.lst 1 p.fst p.snd])]
                          [Blk.box [AV.t (T.bool c0_0), AV.t c0_1]]
        else
          gdK none
            (O (Key.call 69)
              [AV.ref (Id.c 0) 0, AV.t (T.ptr [T.bool v11_0, T.lst 1 ev11_1 v11_1])]
              [Blk.box [AV.t (T.bool c0_0), AV.t c0_1]])
            fun l =>
            gdK none l.head? fun x =>
              gdK none (List.drop 1 l).head? fun x =>
                gdK none x.bool? fun b =>
                  gdK none (List.drop 1 l).tail.head? fun x =>
                    gdK none (T.lst? 1 x) fun p => some [T.nilp, T.bool b, T.lst 1 p.fst p.snd]) := by kernel_rfl
theorem e54n5 (O : Orc) (v13 : Int) (v14 : Int) (c0_0 : Bool) (c0_1 : T) : stepO PROG ann O K54n5m1 [(AV.ref (Id.c 0) 0), (AV.t (T.int IntKind.u64 v13)), (AV.t (T.int IntKind.u64 v14))] [(Blk.box [(AV.t (T.bool c0_0)), (AV.t c0_1)])] =
  (bif decide (v14 > (0 : Int)) then
    gdK none (if v14 = (0 : Int) then none else some ()) fun x =>
      O
        K54n5m1
        [AV.ref (Id.c 0) 0, AV.t (T.int IntKind.u64 v14), AV.t (T.int IntKind.u64 (v13.tmod v14))]
        [Blk.box [AV.t (T.bool c0_0), AV.t c0_1]]
  else
    gdK none
      (O (Key.call 65) [AV.ref (Id.c 0) 0, AV.t (T.int IntKind.u64 v13)]
        [Blk.box [AV.t (T.bool c0_0), AV.t c0_1]])
      fun l =>
      gdK none l.head? fun x =>
        gdK none (List.drop 1 l).head? fun x =>
          gdK none x.bool? fun b =>
            gdK none (List.drop 1 l).tail.head? fun x =>
              gdK none (T.lst? 1 x) fun p => some [T.nilp, T.bool b, T.lst 1 p.fst p.snd]) := by kernel_rfl
theorem e61 (O : Orc) (s : Bool) (y : T) (t : Bool) (u : T) (s2 : Bool) (e2 : Bool) (d2 : List (List T)) (s3 : Bool) (e3 : Bool) (d3 : List (List T)) : stepO PROG ann O (Key.call 61) [AV.ref (Id.c 0) 0, AV.t (T.ptr [T.bool s2, T.lst 1 e2 d2]), AV.t (T.ptr [T.bool s3, T.lst 1 e3 d3])] [Blk.box [AV.t (T.bool s), AV.t y, AV.t (T.bool t), AV.t u]] =
  (gdK none
    (O (Key.call 54)
      [AV.ref (Id.c 0) 0, AV.t T.nilp, AV.t T.nilp, AV.t (T.ptr [T.bool s2, T.lst 1 e2 d2]),
        AV.t (T.ptr [T.bool s3, T.lst 1 e3 d3])]
      [Blk.box [AV.t (T.bool false), AV.t (T.emp true)]])
    fun l =>
    gdK none l.head? fun x =>
      gdK none (List.drop 1 l).head? fun x =>
        gdK none x.bool? fun b =>
          gdK none (List.drop 1 l).tail.head? fun x =>
            gdK none (T.lst? 1 x) fun p =>
              gdK none
                (O (Key.call 77)
                  [AV.ref (Id.c 0) 0, AV.t (T.ptr [T.bool s2, T.lst 1 e2 d2]),
                    AV.t (T.ptr [T.bool b, T.lst 1 p.fst p.snd])]
                  [Blk.box [AV.t (T.bool false), AV.t (T.emp true)]])
                fun l =>
                gdK none l.head? fun x =>
                  gdK none (List.drop 1 l).head? fun x =>
                    gdK none x.bool? fun b_1 =>
                      gdK none (List.drop 1 l).tail.head? fun x =>
                        gdK none (T.lst? 1 x) fun p_1 =>
                          gdK none
                            (O (Key.call 77)
                              [AV.ref (Id.c 0) 0, AV.t (T.ptr [T.bool s3, T.lst 1 e3 d3]),
                                AV.t (T.ptr [T.bool b, T.lst 1 p.fst p.snd])]
                              [Blk.box [AV.t (T.bool false), AV.t (T.emp true)]])
                            fun l =>
                            gdK none l.head? fun x =>
                              gdK none (List.drop 1 l).head? fun x =>
                                gdK none x.bool? fun b =>
                                  gdK none (List.drop 1 l).tail.head? fun x =>
                                    gdK none (T.lst? 1 x) fun p =>
                                      bif b then
                                        gdK none
                                          (O (Key.call 50)
                                            [AV.ref (Id.c 0) 0, AV.ref (Id.c 0) 0]
                                            [Blk.box [AV.t (T.bool b_1), AV.t (T.lst 1 p_1.fst p_1.snd)]])
                                          fun l =>
                                          gdK none l.head? fun x =>
                                            gdK none (List.drop 1 l).head? fun x =>
                                              gdK none x.bool? fun b_2 =>
                                                gdK none (List.drop 1 l).tail.head? fun x =>
                                                  gdK none (T.lst? 1 x) fun p_2 =>
                                                    gdK none
                                                      (O (Key.call 50)
                                                        [AV.ref (Id.c 0) 0,
                                                          AV.ref (Id.c 0) 0]
                                                        [Blk.box [AV.t (T.bool b), AV.t (T.lst 1 p.fst p.snd)]])
                                                      fun l =>
                                                      gdK none l.head? fun x =>
                                                        gdK none (List.drop 1 l).head? fun x =>
                                                          gdK none x.bool? fun b =>
                                                            gdK none (List.drop 1 l).tail.head? fun x =>
                                                              gdK none (T.lst? 1 x) fun p =>
                                                                gdK none
                                                                  (O (Key.call 69)
                                                                    [AV.ref (Id.c 0) 0,
                                                                      AV.t
                                                                        (T.ptr
                                                                          [T.bool b_2, T.lst 1 p_2.fst p_2.snd])]
                                                                    [Blk.box
                                                                        [AV.t (T.bool s), AV.t y, AV.t (T.bool t),
                                                                          AV.t u]])
                                                                  fun l =>
                                                                  gdK none l.head? fun x =>
                                                                    gdK none (List.drop 1 l).head? fun x =>
                                                                      gdK none x.bool? fun b_3 =>
                                                                        gdK none (List.drop 1 l).tail.head?
                                                                          fun x =>
                                                                          gdK none (T.lst? 1 x) fun p_3 =>
                                                                            gdK none
                                                                              (List.drop 1 l).tail.tail.head?
                                                                              fun x =>
                                                                              gdK none x.bool? fun b_4 =>
                                                                                gdK none
                                                                                  (List.drop 1
                                                                                            l).tail.tail.tail.head?
                                                                                  fun x =>
                                                                                  gdK none (T.lst? 1 x) fun p_4 =>
                                                                                    gdK none
                                                                                      (O (Key.call 69)
                                                                                        [AV.ref (Id.c 0)
                                                                                            2,
                                                                                          AV.t
                                                                                            (T.ptr
                                                                                              [T.bool b,
                                                                                                T.lst 1 p.fst
                                                                                                  p.snd])]
                                                                                        [Blk.box
                                                                                            [AV.t (T.bool b_3),
                                                                                              AV.t
                                                                                                (T.lst 1 p_3.fst
                                                                                                  p_3.snd),
                                                                                              AV.t (T.bool b_4),
                                                                                              AV.t
                                                                                                (T.lst 1 p_4.fst
                                                                                                  p_4.snd)]])
                                                                                      fun l =>
                                                                                      gdK none l.head? fun x =>
                                                                                        gdK none
                                                                                          (List.drop 1 l).head?
                                                                                          fun x =>
                                                                                          gdK none x.bool? fun b =>
                                                                                            gdK none
                                                                                              (List.drop 1
                                                                                                    l).tail.head?
                                                                                              fun x =>
                                                                                              gdK none
                                                                                                (T.lst? 1 x)
                                                                                                fun p =>
                                                                                                gdK none
                                                                                                  (List.drop 1
                                                                                                          l).tail.tail.head?
                                                                                                  fun x =>
                                                                                                  gdK none x.bool?
                                                                                                    fun b_5 =>
                                                                                                    gdK none
                                                                                                      (List.drop 1
                                                                                                                l).tail.tail.tail.head?
                                                                                                      fun x =>
                                                                                                      gdK none
                                                                                                        (T.lst? 1
                                                                                                          x)
                                                                                                        fun p_5 =>
                                                                                                        some
                                                                                                          [T.nilp,
                                                                                                            T.bool b,
                                                                                                            T.lst
                                                                                                              1
                                                                                                              p.fst p.snd,
                                                                                                            T.bool b_5,
                                                                                                            T.lst
                                                                                                              1
                                                                                                              p_5.fst
                                                                                                              p_5.snd]
                                      else
                                        gdK none
                                          (O (Key.call 69)
                                            [AV.ref (Id.c 0) 0,
                                              AV.t (T.ptr [T.bool b_1, T.lst 1 p_1.fst p_1.snd])]
                                            [Blk.box [AV.t (T.bool s), AV.t y, AV.t (T.bool t), AV.t u]])
                                          fun l =>
                                          gdK none l.head? fun x =>
                                            gdK none (List.drop 1 l).head? fun x =>
                                              gdK none x.bool? fun b_2 =>
                                                gdK none (List.drop 1 l).tail.head? fun x =>
                                                  gdK none (T.lst? 1 x) fun p_2 =>
                                                    gdK none (List.drop 1 l).tail.tail.head? fun x =>
                                                      gdK none x.bool? fun b_3 =>
                                                        gdK none (List.drop 1 l).tail.tail.tail.head? fun x =>
                                                          gdK none (T.lst? 1 x) fun p_3 =>
                                                            gdK none
                                                              (O (Key.call 69)
                                                                [AV.ref (Id.c 0) 2,
                                                                  AV.t (T.ptr [T.bool b, T.lst 1 p.fst p.snd])]
                                                                [Blk.box
                                                                    [AV.t (T.bool b_2),
                                                                      AV.t (T.lst 1 p_2.fst p_2.snd),
                                                                      AV.t (T.bool b_3),
                                                                      AV.t (T.lst 1 p_3.fst p_3.snd)]])
                                                              fun l =>
                                                              gdK none l.head? fun x =>
                                                                gdK none (List.drop 1 l).head? fun x =>
                                                                  gdK none x.bool? fun b =>
                                                                    gdK none (List.drop 1 l).tail.head? fun x =>
                                                                      gdK none (T.lst? 1 x) fun p =>
                                                                        gdK none (List.drop 1 l).tail.tail.head?
                                                                          fun x =>
                                                                          gdK none x.bool? fun b_4 =>
                                                                            gdK none
                                                                              (List.drop 1 l).tail.tail.tail.head?
                                                                              fun x =>
                                                                              gdK none (T.lst? 1 x) fun p_4 =>
                                                                                some
                                                                                  [T.nilp, T.bool b,
                                                                                    T.lst 1 p.fst p.snd,
                                                                                    T.bool b_4,
                                                                                    T.lst 1 p_4.fst p_4.snd]) := by kernel_rfl
theorem e74 (O : Orc) (s2 : Bool) (e2 : Bool) (d2 : List (List T)) (t2 : Bool) (f2 : Bool) (g2 : List (List T)) : stepO PROG ann O (Key.call 74) [AV.t (T.ptr [T.bool s2, T.lst 1 e2 d2, T.bool t2, T.lst 1 f2 g2])] [] =
  (gdK none
    (O (Key.call 69)
      [AV.ref (Id.c 0) 0,
        AV.t (T.ptr [T.bool s2, T.lst 1 e2 d2, T.bool t2, T.lst 1 f2 g2])]
      [Blk.box [AV.t (T.bool false), AV.t (T.emp true)]])
    fun l =>
    gdK none l.head? fun x =>
      gdK none (List.drop 1 l).head? fun x =>
        gdK none x.bool? fun b =>
          gdK none (List.drop 1 l).tail.head? fun x =>
            gdK none (T.lst? 1 x) fun p => some [T.ptr [T.bool b, T.lst 1 p.fst p.snd]]) := by kernel_rfl
theorem e75 (O : Orc) (s2 : Bool) (e2 : Bool) (d2 : List (List T)) (t2 : Bool) (f2 : Bool) (g2 : List (List T)) : stepO PROG ann O (Key.call 75) [AV.t (T.ptr [T.bool s2, T.lst 1 e2 d2, T.bool t2, T.lst 1 f2 g2])] [] =
  (gdK none (O (Key.call 72) [AV.t (T.ptr [T.bool t2, T.lst 1 f2 g2])] []) fun l =>
    gdK none l.head? fun x =>
      gdK none (T.int? IntKind.i64 x) fun n =>
        bif n == (0 : Int) then
          gdK none (O (Key.call 35) [AV.t (T.int IntKind.i64 (1 : Int))] []) fun l =>
            gdK none l.head? fun x => some [x]
        else
          gdK none
            (O (Key.call 69) [AV.ref (Id.c 0) 0, AV.t (T.ptr [T.bool t2, T.lst 1 f2 g2])]
              [Blk.box [AV.t (T.bool false), AV.t (T.emp true)]])
            fun l =>
            gdK none l.head? fun x =>
              gdK none (List.drop 1 l).head? fun x =>
                gdK none x.bool? fun b =>
                  gdK none (List.drop 1 l).tail.head? fun x =>
                    gdK none (T.lst? 1 x) fun p => some [T.ptr [T.bool b, T.lst 1 p.fst p.snd]]) := by kernel_rfl
theorem e60 (O : Orc) (s2 : Bool) (e2 : Bool) (d2 : List (List T)) (t2 : Bool) (f2 : Bool) (g2 : List (List T)) : stepO PROG ann O (Key.call 60) [AV.t (T.ptr [T.bool s2, T.lst 1 e2 d2, T.bool t2, T.lst 1 f2 g2])] [] =
  (gdK none
    (O (Key.call 72) [AV.t (T.ptr [T.bool s2, T.lst 1 e2 d2, T.bool t2, T.lst 1 f2 g2])] [])
    fun l => gdK none l.head? fun x => gdK none (T.int? IntKind.i64 x) fun n => some [T.int IntKind.i64 n]) := by kernel_rfl
theorem e56 (O : Orc) (s : Bool) (y : T) (t : Bool) (u : T) (s2 : Bool) (e2 : Bool) (d2 : List (List T)) (t2 : Bool) (f2 : Bool) (g2 : List (List T)) (s3 : Bool) (e3 : Bool) (d3 : List (List T)) (t3 : Bool) (f3 : Bool) (g3 : List (List T)) : stepO PROG ann O (Key.call 56) [AV.ref (Id.c 0) 0, AV.t (T.ptr [T.bool s2, T.lst 1 e2 d2, T.bool t2, T.lst 1 f2 g2]), AV.t (T.ptr [T.bool s3, T.lst 1 e3 d3, T.bool t3, T.lst 1 f3 g3])] [Blk.box [AV.t (T.bool s), AV.t y, AV.t (T.bool t), AV.t u]] =
  (gdK none
    (O (Key.call 74) [AV.t (T.ptr [T.bool s2, T.lst 1 e2 d2, T.bool t2, T.lst 1 f2 g2])] [])
    fun l =>
    gdK none l.head? fun x =>
      gdK none
        (O (Key.call 74) [AV.t (T.ptr [T.bool s3, T.lst 1 e3 d3, T.bool t3, T.lst 1 f3 g3])] [])
        fun l =>
        gdK none l.head? fun x_1 =>
          gdK none
            (O (Key.call 37) [AV.ref (Id.c 0) 0, AV.t x, AV.t x_1]
              [Blk.box [AV.t (T.bool false), AV.t (T.emp true)]])
            fun l =>
            gdK none l.head? fun x =>
              gdK none (List.drop 1 l).head? fun x =>
                gdK none x.bool? fun b =>
                  gdK none (List.drop 1 l).tail.head? fun x =>
                    gdK none (T.lst? 1 x) fun p =>
                      gdK none
                        (O (Key.call 75)
                          [AV.t (T.ptr [T.bool s2, T.lst 1 e2 d2, T.bool t2, T.lst 1 f2 g2])] [])
                        fun l =>
                        gdK none l.head? fun x =>
                          gdK none
                            (O (Key.call 75)
                              [AV.t (T.ptr [T.bool s3, T.lst 1 e3 d3, T.bool t3, T.lst 1 f3 g3])] [])
                            fun l =>
                            gdK none l.head? fun x_2 =>
                              gdK none
                                (O (Key.call 37) [AV.ref (Id.c 0) 0, AV.t x, AV.t x_2]
                                  [Blk.box [AV.t (T.bool false), AV.t (T.emp true)]])
                                fun l =>
                                gdK none l.head? fun x =>
                                  gdK none (List.drop 1 l).head? fun x =>
                                    gdK none x.bool? fun b_1 =>
                                      gdK none (List.drop 1 l).tail.head? fun x =>
                                        gdK none (T.lst? 1 x) fun p_1 =>
                                          gdK none
                                            (O (Key.call 61)
                                              [AV.ref (Id.c 0) 0,
                                                AV.t (T.ptr [T.bool b, T.lst 1 p.fst p.snd]),
                                                AV.t (T.ptr [T.bool b_1, T.lst 1 p_1.fst p_1.snd])]
                                              [Blk.box [AV.t (T.bool s), AV.t y, AV.t (T.bool t), AV.t u]])
                                            fun l =>
                                            gdK none l.head? fun x =>
                                              gdK none (List.drop 1 l).head? fun x =>
                                                gdK none x.bool? fun b =>
                                                  gdK none (List.drop 1 l).tail.head? fun x =>
                                                    gdK none (T.lst? 1 x) fun p =>
                                                      gdK none (List.drop 1 l).tail.tail.head? fun x =>
                                                        gdK none x.bool? fun b_2 =>
                                                          gdK none (List.drop 1 l).tail.tail.tail.head? fun x =>
                                                            gdK none (T.lst? 1 x) fun p_2 =>
                                                              some
                                                                [T.nilp, T.bool b, T.lst 1 p.fst p.snd,
                                                                  T.bool b_2, T.lst 1 p_2.fst p_2.snd]) := by kernel_rfl
theorem e58 (O : Orc) (s : Bool) (y : T) (t : Bool) (u : T) (s2 : Bool) (e2 : Bool) (d2 : List (List T)) (t2 : Bool) (f2 : Bool) (g2 : List (List T)) (s3 : Bool) (e3 : Bool) (d3 : List (List T)) (t3 : Bool) (f3 : Bool) (g3 : List (List T)) : stepO PROG ann O (Key.call 58) [AV.ref (Id.c 0) 0, AV.t (T.ptr [T.bool s2, T.lst 1 e2 d2, T.bool t2, T.lst 1 f2 g2]), AV.t (T.ptr [T.bool s3, T.lst 1 e3 d3, T.bool t3, T.lst 1 f3 g3])] [Blk.box [AV.t (T.bool s), AV.t y, AV.t (T.bool t), AV.t u]] =
  (gdK none
    (O (Key.call 74) [AV.t (T.ptr [T.bool s2, T.lst 1 e2 d2, T.bool t2, T.lst 1 f2 g2])] [])
    fun l =>
    gdK none l.head? fun x =>
      gdK none
        (O (Key.call 75) [AV.t (T.ptr [T.bool s3, T.lst 1 e3 d3, T.bool t3, T.lst 1 f3 g3])] [])
        fun l =>
        gdK none l.head? fun x_1 =>
          gdK none
            (O (Key.call 37) [AV.ref (Id.c 0) 0, AV.t x, AV.t x_1]
              [Blk.box [AV.t (T.bool false), AV.t (T.emp true)]])
            fun l =>
            gdK none l.head? fun x =>
              gdK none (List.drop 1 l).head? fun x =>
                gdK none x.bool? fun b =>
                  gdK none (List.drop 1 l).tail.head? fun x =>
                    gdK none (T.lst? 1 x) fun p =>
                      gdK none
                        (O (Key.call 74)
                          [AV.t (T.ptr [T.bool s3, T.lst 1 e3 d3, T.bool t3, T.lst 1 f3 g3])] [])
                        fun l =>
                        gdK none l.head? fun x =>
                          gdK none
                            (O (Key.call 75)
                              [AV.t (T.ptr [T.bool s2, T.lst 1 e2 d2, T.bool t2, T.lst 1 f2 g2])] [])
                            fun l =>
                            gdK none l.head? fun x_2 =>
                              gdK none
                                (O (Key.call 37) [AV.ref (Id.c 0) 0, AV.t x, AV.t x_2]
                                  [Blk.box [AV.t (T.bool false), AV.t (T.emp true)]])
                                fun l =>
                                gdK none l.head? fun x =>
                                  gdK none (List.drop 1 l).head? fun x =>
                                    gdK none x.bool? fun b_1 =>
                                      gdK none (List.drop 1 l).tail.head? fun x =>
                                        gdK none (T.lst? 1 x) fun p_1 =>
                                          gdK none
                                            (O (Key.call 49)
                                              [AV.ref (Id.c 0) 0, AV.ref (Id.c 0) 0,
                                                AV.t (T.ptr [T.bool b_1, T.lst 1 p_1.fst p_1.snd])]
                                              [Blk.box [AV.t (T.bool b), AV.t (T.lst 1 p.fst p.snd)]])
                                            fun l =>
                                            gdK none l.head? fun x =>
                                              gdK none (List.drop 1 l).head? fun x =>
                                                gdK none x.bool? fun b =>
                                                  gdK none (List.drop 1 l).tail.head? fun x =>
                                                    gdK none (T.lst? 1 x) fun p =>
                                                      gdK none
                                                        (O (Key.call 75)
                                                          [AV.t
                                                              (T.ptr
                                                                [T.bool s2, T.lst 1 e2 d2, T.bool t2,
                                                                  T.lst 1 f2 g2])]
                                                          [])
                                                        fun l =>
                                                        gdK none l.head? fun x =>
                                                          gdK none
                                                            (O (Key.call 75)
                                                              [AV.t
                                                                  (T.ptr
                                                                    [T.bool s3, T.lst 1 e3 d3, T.bool t3,
                                                                      T.lst 1 f3 g3])]
                                                              [])
                                                            fun l =>
                                                            gdK none l.head? fun x_3 =>
                                                              gdK none
                                                                (O (Key.call 37)
                                                                  [AV.ref (Id.c 0) 0, AV.t x, AV.t x_3]
                                                                  [Blk.box [AV.t (T.bool false), AV.t (T.emp true)]])
                                                                fun l =>
                                                                gdK none l.head? fun x =>
                                                                  gdK none (List.drop 1 l).head? fun x =>
                                                                    gdK none x.bool? fun b_2 =>
                                                                      gdK none (List.drop 1 l).tail.head? fun x =>
                                                                        gdK none (T.lst? 1 x) fun p_2 =>
                                                                          gdK none
                                                                            (O (Key.call 61)
                                                                              [AV.ref (Id.c 0) 0,
                                                                                AV.t
                                                                                  (T.ptr
                                                                                    [T.bool b,
                                                                                      T.lst 1 p.fst p.snd]),
                                                                                AV.t
                                                                                  (T.ptr
                                                                                    [T.bool b_2,
                                                                                      T.lst 1 p_2.fst p_2.snd])]
                                                                              [Blk.box
                                                                                  [AV.t (T.bool s), AV.t y,
                                                                                    AV.t (T.bool t), AV.t u]])
                                                                            fun l =>
                                                                            gdK none l.head? fun x =>
                                                                              gdK none (List.drop 1 l).head?
                                                                                fun x =>
                                                                                gdK none x.bool? fun b =>
                                                                                  gdK none
                                                                                    (List.drop 1 l).tail.head?
                                                                                    fun x =>
                                                                                    gdK none (T.lst? 1 x) fun p =>
                                                                                      gdK none
                                                                                        (List.drop 1
                                                                                                l).tail.tail.head?
                                                                                        fun x =>
                                                                                        gdK none x.bool? fun b_3 =>
                                                                                          gdK none
                                                                                            (List.drop 1
                                                                                                      l).tail.tail.tail.head?
                                                                                            fun x =>
                                                                                            gdK none (T.lst? 1 x)
                                                                                              fun p_3 =>
                                                                                              some
                                                                                                [T.nilp, T.bool b,
                                                                                                  T.lst 1 p.fst
                                                                                                    p.snd,
                                                                                                  T.bool b_3,
                                                                                                  T.lst 1 p_3.fst
                                                                                                    p_3.snd]) := by kernel_rfl
theorem e59 (O : Orc) (s : Bool) (y : T) (t : Bool) (u : T) (s2 : Bool) (e2 : Bool) (d2 : List (List T)) (t2 : Bool) (f2 : Bool) (g2 : List (List T)) (s3 : Bool) (e3 : Bool) (d3 : List (List T)) (t3 : Bool) (f3 : Bool) (g3 : List (List T)) : stepO PROG ann O (Key.call 59) [AV.ref (Id.c 0) 0, AV.t (T.ptr [T.bool s2, T.lst 1 e2 d2, T.bool t2, T.lst 1 f2 g2]), AV.t (T.ptr [T.bool s3, T.lst 1 e3 d3, T.bool t3, T.lst 1 f3 g3])] [Blk.box [AV.t (T.bool s), AV.t y, AV.t (T.bool t), AV.t u]] =
  (gdK none
    (O (Key.call 76)
      [AV.ref (Id.c 0) 0,
        AV.t (T.ptr [T.bool s3, T.lst 1 e3 d3, T.bool t3, T.lst 1 f3 g3])]
      [Blk.box [AV.t (T.bool false), AV.t (T.emp true), AV.t (T.bool false), AV.t (T.emp true)]])
    fun l =>
    gdK none l.head? fun x =>
      gdK none (List.drop 1 l).head? fun x =>
        gdK none x.bool? fun b =>
          gdK none (List.drop 1 l).tail.head? fun x =>
            gdK none (T.lst? 1 x) fun p =>
              gdK none (List.drop 1 l).tail.tail.head? fun x =>
                gdK none x.bool? fun b_1 =>
                  gdK none (List.drop 1 l).tail.tail.tail.head? fun x =>
                    gdK none (T.lst? 1 x) fun p_1 =>
                      gdK none
                        (O (Key.call 58)
                          [AV.ref (Id.c 0) 0,
                            AV.t (T.ptr [T.bool s2, T.lst 1 e2 d2, T.bool t2, T.lst 1 f2 g2]),
                            AV.t
                              (T.ptr
                                [T.bool b, T.lst 1 p.fst p.snd, T.bool b_1, T.lst 1 p_1.fst p_1.snd])]
                          [Blk.box [AV.t (T.bool s), AV.t y, AV.t (T.bool t), AV.t u]])
                        fun l =>
                        gdK none l.head? fun x =>
                          gdK none (List.drop 1 l).head? fun x =>
                            gdK none x.bool? fun b =>
                              gdK none (List.drop 1 l).tail.head? fun x =>
                                gdK none (T.lst? 1 x) fun p =>
                                  gdK none (List.drop 1 l).tail.tail.head? fun x =>
                                    gdK none x.bool? fun b_2 =>
                                      gdK none (List.drop 1 l).tail.tail.tail.head? fun x =>
                                        gdK none (T.lst? 1 x) fun p_2 =>
                                          some
                                            [T.nilp, T.bool b, T.lst 1 p.fst p.snd, T.bool b_2,
                                              T.lst 1 p_2.fst p_2.snd]) := by kernel_rfl
theorem e76 (O : Orc) (s : Bool) (y : T) (t : Bool) (u : T) (s2 : Bool) (e2 : Bool) (d2 : List (List T)) (t2 : Bool) (f2 : Bool) (g2 : List (List T)) : stepO PROG ann O (Key.call 76) [AV.ref (Id.c 0) 0, AV.t (T.ptr [T.bool s2, T.lst 1 e2 d2, T.bool t2, T.lst 1 f2 g2])] [Blk.box [AV.t (T.bool s), AV.t y, AV.t (T.bool t), AV.t u]] =
  (gdK none
    (O (Key.call 50)
      [AV.ref (Id.c 0) 0,
        AV.t (T.ptr [T.bool s2, T.lst 1 e2 d2, T.bool t2, T.lst 1 f2 g2])]
      [Blk.box [AV.t (T.bool false), AV.t (T.emp true)]])
    fun l =>
    gdK none l.head? fun x =>
      gdK none (List.drop 1 l).head? fun x =>
        gdK none x.bool? fun b =>
          gdK none (List.drop 1 l).tail.head? fun x =>
            gdK none (T.lst? 1 x) fun p =>
              gdK none
                (O (Key.call 75)
                  [AV.t (T.ptr [T.bool s2, T.lst 1 e2 d2, T.bool t2, T.lst 1 f2 g2])] [])
                fun l =>
                gdK none l.head? fun x =>
                  gdK none
                    (O (Key.call 61)
                      [AV.ref (Id.c 0) 0, AV.t (T.ptr [T.bool b, T.lst 1 p.fst p.snd]), AV.t x]
                      [Blk.box [AV.t (T.bool s), AV.t y, AV.t (T.bool t), AV.t u]])
                    fun l =>
                    gdK none l.head? fun x =>
                      gdK none (List.drop 1 l).head? fun x =>
                        gdK none x.bool? fun b =>
                          gdK none (List.drop 1 l).tail.head? fun x =>
                            gdK none (T.lst? 1 x) fun p =>
                              gdK none (List.drop 1 l).tail.tail.head? fun x =>
                                gdK none x.bool? fun b_1 =>
                                  gdK none (List.drop 1 l).tail.tail.tail.head? fun x =>
                                    gdK none (T.lst? 1 x) fun p_1 =>
                                      some
                                        [T.nilp, T.bool b, T.lst 1 p.fst p.snd, T.bool b_1,
                                          T.lst 1 p_1.fst p_1.snd]) := by kernel_rfl
theorem e42 (O : Orc) (s2 : Bool) (e2 : Bool) (d2 : List (List T)) (t2 : Bool) (f2 : Bool) (g2 : List (List T)) (s3 : Bool) (e3 : Bool) (d3 : List (List T)) (t3 : Bool) (f3 : Bool) (g3 : List (List T)) : stepO PROG ann O (Key.call 42) [AV.t (T.ptr [T.bool s2, T.lst 1 e2 d2, T.bool t2, T.lst 1 f2 g2]), AV.t (T.ptr [T.bool s3, T.lst 1 e3 d3, T.bool t3, T.lst 1 f3 g3])] [] =
  (gdK none
    (O (Key.call 59)
      [AV.ref (Id.c 0) 0,
        AV.t (T.ptr [T.bool s2, T.lst 1 e2 d2, T.bool t2, T.lst 1 f2 g2]),
        AV.t (T.ptr [T.bool s3, T.lst 1 e3 d3, T.bool t3, T.lst 1 f3 g3])]
      [Blk.box [AV.t (T.bool false), AV.t (T.emp true), AV.t (T.bool false), AV.t (T.emp true)]])
    fun l =>
    gdK none l.head? fun x =>
      gdK none (List.drop 1 l).head? fun x =>
        gdK none x.bool? fun b =>
          gdK none (List.drop 1 l).tail.head? fun x =>
            gdK none (T.lst? 1 x) fun p =>
              gdK none (List.drop 1 l).tail.tail.head? fun x =>
                gdK none x.bool? fun b_1 =>
                  gdK none (List.drop 1 l).tail.tail.tail.head? fun x =>
                    gdK none (T.lst? 1 x) fun p_1 =>
                      gdK none
                        (O (Key.call 60)
                          [AV.t
                              (T.ptr
                                [T.bool b, T.lst 1 p.fst p.snd, T.bool b_1, T.lst 1 p_1.fst p_1.snd])]
                          [])
                        fun l =>
                        gdK none l.head? fun x => gdK none (T.int? IntKind.i64 x) fun n => some [T.int IntKind.i64 n]) := by kernel_rfl
theorem e43 (O : Orc) (n m : Int) : stepO PROG ann O (Key.call 43) [AV.t (T.int .i64 n), AV.t (T.int .i64 m)] [] =
  (gdK none (O (Key.call 35) [AV.t (T.int IntKind.i64 n)] []) fun l =>
    gdK none l.head? fun x =>
      gdK none (O (Key.call 35) [AV.t (T.int IntKind.i64 m)] []) fun l =>
        gdK none l.head? fun x_1 =>
          gdK none
            (O (Key.call 61) [AV.ref (Id.c 0) 0, AV.t x, AV.t x_1]
              [Blk.box [AV.t (T.bool false), AV.t (T.emp true), AV.t (T.bool false), AV.t (T.emp true)]])
            fun l =>
            gdK none l.head? fun x =>
              gdK none (List.drop 1 l).head? fun x =>
                gdK none x.bool? fun b =>
                  gdK none (List.drop 1 l).tail.head? fun x =>
                    gdK none (T.lst? 1 x) fun p =>
                      gdK none (List.drop 1 l).tail.tail.head? fun x =>
                        gdK none x.bool? fun b_1 =>
                          gdK none (List.drop 1 l).tail.tail.tail.head? fun x =>
                            gdK none (T.lst? 1 x) fun p_1 =>
                              some
                                [T.ptr
                                    [T.bool b, T.lst 1 p.fst p.snd, T.bool b_1, T.lst 1 p_1.fst p_1.snd]]) := by kernel_rfl
theorem e57 (O : Orc) (n m : Int) : stepO PROG ann O (Key.call 57) [AV.agg [AV.t (T.int .i64 n), AV.t (T.int .i64 m)]] [] =
  (gdK none (O (Key.call 43) [AV.t (T.int IntKind.i64 n), AV.t (T.int IntKind.i64 m)] []) fun l =>
    gdK none l.head? fun x => some [x]) := by kernel_rfl
theorem e40 (O : Orc) (n m : Int) : stepO PROG ann O (Key.call 40) [AV.agg [AV.t (T.int .i64 n), AV.t (T.int .i64 m)]] [] =
  (bif
      bif
          bif bif decide (m < (1 : Int)) then true else decide (m > (1073741824 : Int)) then true
          else decide (n < (-1073741824 : Int)) then
        true
      else decide (n > (1073741824 : Int)) then
    some [T.bool false]
  else
    gdK none (O (Key.call 35) [AV.t (T.int IntKind.i64 n)] []) fun l =>
      gdK none l.head? fun x =>
        gdK none (O (Key.call 35) [AV.t (T.int IntKind.i64 m)] []) fun l =>
          gdK none l.head? fun x_1 =>
            gdK none
              (O (Key.call 54) [AV.ref (Id.c 0) 0, AV.t T.nilp, AV.t T.nilp, AV.t x, AV.t x_1]
                [Blk.box [AV.t (T.bool false), AV.t (T.emp true)]])
              fun l =>
              gdK none l.head? fun x =>
                gdK none (List.drop 1 l).head? fun x =>
                  gdK none x.bool? fun b =>
                    gdK none (List.drop 1 l).tail.head? fun x =>
                      gdK none (T.lst? 1 x) fun p =>
                        gdK none (O (Key.call 35) [AV.t (T.int IntKind.i64 (1 : Int))] []) fun l =>
                          gdK none l.head? fun x =>
                            gdK none
                              (O (Key.call 55) [AV.t (T.ptr [T.bool b, T.lst 1 p.fst p.snd]), AV.t x] [])
                              fun l =>
                              gdK none l.head? fun x =>
                                gdK none (T.int? IntKind.i64 x) fun n => some [T.bool (n == (0 : Int))]) := by kernel_rfl
theorem e4 (O : Orc) (eq : Bool) (q : List (List T)) (er : Bool) (r : List (List T)) (en : Bool) (n : List (List T)) : stepO PROG ann O (Key.call 4) [AV.t (T.lst 3 eq q), AV.t (T.lst 2 er r), AV.t (T.lst 1 en n)] [] =
  (gdK none (O (Key.call 9) [] []) fun l =>
    gdK none l.head? fun x =>
      gdK none x.bool? fun b =>
        bif !b then some [T.bool false]
        else
          gdK none (O (Key.call 8) [AV.t (T.lst 3 eq q), AV.t (T.lst 2 er r)] []) fun l =>
            gdK none l.head? fun x =>
              gdK none (T.lst? 2 x) fun p =>
                gdK none l.tail.head? fun x =>
                  gdK none x.bool? fun b =>
                    gdK none l.tail.tail.head? fun x =>
                      gdK none (T.int? IntKind.i64 x) fun n_1 =>
                        gdK none l.tail.tail.tail.head? fun x =>
                          gdK none (T.int? IntKind.i64 x) fun n_2 =>
                            bif !n_1 == (0 : Int) then some [T.bool ((↑p.snd.length : Int) == (0 : Int))]
                            else
                              gdK none (O (Key.call 16) [AV.t (T.lst 1 en n)] []) fun l =>
                                gdK none l.head? fun x =>
                                  gdK none (T.lst? 2 x) fun p_1 =>
                                    gdK none l.tail.head? fun x =>
                                      gdK none x.bool? fun b_1 =>
                                        gdK none
                                          (askO (some !bif !(↑n.length : Int) == (↑r.length : Int) then true else !b_1)
                                            (O (Key.call 17)
                                              [AV.t (T.lst 3 eq q), AV.t (T.lst 2 p_1.fst p_1.snd)] []))
                                          fun l =>
                                          gdK (some !bif !(↑n.length : Int) == (↑r.length : Int) then true else !b_1)
                                            l.head? fun x =>
                                            gdK (some !bif !(↑n.length : Int) == (↑r.length : Int) then true else !b_1)
                                              x.bool? fun b_2 =>
                                              bif
                                                  bif bif !(↑n.length : Int) == (↑r.length : Int) then true else !b_1 then
                                                    true
                                                  else !b_2 then
                                                some [T.bool true]
                                              else
                                                O
                                                  K4n11
                                                  [AV.t (T.lst 2 er r), AV.t (T.lst 1 en n),
                                                    AV.t (T.lst 2 p.fst p.snd), AV.t (T.bool b),
                                                    AV.t (T.int IntKind.i64 (0 : Int))]
                                                  []) := by kernel_rfl
theorem e16 (O : Orc) (ea0 : Bool) (a0 : List (List T)) : stepO PROG ann O (Key.call 16) [(AV.t (T.lst 1 ea0 a0))] [] =
  (O
    K16n3
    [AV.t (T.lst 1 ea0 a0), AV.own (Id.c 0), AV.t (T.int IntKind.i64 (0 : Int))]
    [Blk.sl false 2 true []]) := by kernel_rfl
theorem e17 (O : Orc) (ea0 : Bool) (a0 : List (List T)) (ea1 : Bool) (a1 : List (List T)) : stepO PROG ann O (Key.call 17) [(AV.t (T.lst 3 ea0 a0)), (AV.t (T.lst 2 ea1 a1))] [] =
  (O
    K17n2
    [AV.t (T.lst 3 ea0 a0), AV.t (T.lst 2 ea1 a1), AV.t (T.int IntKind.i64 (0 : Int))] []) := by kernel_rfl
theorem e4n11 (O : Orc) (ev1 : Bool) (v1 : List (List T)) (ev2 : Bool) (v2 : List (List T)) (ev8 : Bool) (v8 : List (List T)) (v9 : Bool) (v13 : Int) : stepO PROG ann O K4n11 [(AV.t (T.lst 2 ev1 v1)), (AV.t (T.lst 1 ev2 v2)), (AV.t (T.lst 2 ev8 v8)), (AV.t (T.bool v9)), (AV.t (T.int IntKind.i64 v13))] [] =
  (bif decide (v13 < (↑v1.length : Int)) then
    gdK none (if (0 : Int) ≤ v13 ∧ v13 < (↑v1.length : Int) then some () else none) fun x =>
      gdK none v1[v13.toNat]? fun l =>
        gdK none l.head? fun x =>
          gdK none l.tail.head? fun x_1 =>
            gdK none (T.int? IntKind.i64 x) fun n =>
              gdK none (T.int? IntKind.i64 x_1) fun n_1 =>
                gdK none (if (0 : Int) ≤ v13 ∧ v13 < (↑v2.length : Int) then some () else none) fun x =>
                  gdK none v2[v13.toNat]? fun l =>
                    gdK none l.head? fun x =>
                      gdK none (T.int? IntKind.i64 x) fun n_2 =>
                        gdK none
                          (O (Key.call 18)
                            [AV.agg [AV.t (T.int IntKind.i64 n), AV.t (T.int IntKind.i64 n_1)],
                              AV.t (T.int IntKind.i64 n_2)]
                            [])
                          fun l =>
                          gdK none l.head? fun x =>
                            gdK none x.bool? fun b =>
                              bif !b then some [T.bool true]
                              else
                                O
                                  K4n11
                                  [AV.t (T.lst 2 ev1 v1), AV.t (T.lst 1 ev2 v2),
                                    AV.t (T.lst 2 ev8 v8), AV.t (T.bool v9),
                                    AV.t (T.int IntKind.i64 (IntKind.i64.wrap (v13 + (1 : Int))))]
                                  []
  else
    bif bif !v9 then true else !(↑v8.length : Int) == (↑v1.length : Int) then some [T.bool false]
    else
      O
        K4n18
        [AV.t (T.lst 2 ev1 v1), AV.t (T.lst 1 ev2 v2), AV.t (T.lst 2 ev8 v8),
          AV.t (T.int IntKind.i64 (0 : Int))]
        []) := by kernel_rfl
theorem e16n3 (O : Orc) (ev0 : Bool) (v0 : List (List T)) (v5 : Int) (ec0 : Bool) (c0 : List (List T)) : stepO PROG ann O K16n3 [(AV.t (T.lst 1 ev0 v0)), (AV.own (Id.c 0)), (AV.t (T.int IntKind.i64 v5))] [(Blk.sl false 2 ec0 c0)] =
  (bif decide (v5 < (↑v0.length : Int)) then
    gdK none (if (0 : Int) ≤ v5 ∧ v5 < (↑v0.length : Int) then some () else none) fun x =>
      gdK none v0[v5.toNat]? fun l =>
        gdK none l.head? fun x =>
          gdK none (T.int? IntKind.i64 x) fun n =>
            gdK none (O (Key.call 25) [AV.t (T.int IntKind.i64 n)] []) fun l =>
              gdK none l.head? fun x =>
                gdK none x.bool? fun b =>
                  bif !b then some [T.emp true, T.bool false]
                  else
                    gdK none (if (0 : Int) ≤ v5 ∧ v5 < (↑v0.length : Int) then some () else none) fun x =>
                      gdK none v0[v5.toNat]? fun l =>
                        gdK none l.head? fun x =>
                          gdK none (T.int? IntKind.i64 x) fun n =>
                            gdK none
                              (small 16 (c0.length + [[T.int IntKind.i64 n, T.int IntKind.i64 (1 : Int)]].length))
                              fun x =>
                              O
                                K16n3
                                [AV.t (T.lst 1 ev0 v0), AV.own (Id.c 0),
                                  AV.t (T.int IntKind.i64 (IntKind.i64.wrap (v5 + (1 : Int))))]
                                [Blk.sl false 2 (ec0 && false)
                                    (c0 ++ [[T.int IntKind.i64 n, T.int IntKind.i64 (1 : Int)]])]
  else some [T.lst 2 ec0 c0, T.bool true]) := by kernel_rfl
theorem e17n2 (O : Orc) (ev0 : Bool) (v0 : List (List T)) (ev1 : Bool) (v1 : List (List T)) (v5 : Int) : stepO PROG ann O K17n2 [(AV.t (T.lst 3 ev0 v0)), (AV.t (T.lst 2 ev1 v1)), (AV.t (T.int IntKind.i64 v5))] [] =
  (bif decide (v5 < (↑v0.length : Int)) then
    gdK none (if (0 : Int) ≤ v5 ∧ v5 < (↑v0.length : Int) then some () else none) fun x =>
      gdK none v0[v5.toNat]? fun l =>
        gdK none l.head? fun x =>
          gdK none l.tail.head? fun x_1 =>
            gdK none l.tail.tail.head? fun x_2 =>
              gdK none (T.lst? 1 x) fun p =>
                gdK none (T.int? IntKind.i64 x_1) fun n =>
                  gdK none (T.int? IntKind.i64 x_2) fun n_1 =>
                    gdK none
                      (O (Key.call 28)
                        [AV.agg
                            [AV.t (T.lst 1 p.fst p.snd), AV.t (T.int IntKind.i64 n),
                              AV.t (T.int IntKind.i64 n_1)],
                          AV.t (T.lst 2 ev1 v1)]
                        [])
                      fun l =>
                      gdK none l.head? fun x =>
                        gdK none (T.int? IntKind.i64 x) fun n =>
                          gdK none l.tail.head? fun x =>
                            gdK none (T.int? IntKind.i64 x) fun n_2 =>
                              gdK (some !!n == (0 : Int))
                                (if (0 : Int) ≤ v5 ∧ v5 < (↑v0.length : Int) then some () else none) fun x =>
                                gdK (some !!n == (0 : Int)) v0[v5.toNat]? fun l =>
                                  gdK (some !!n == (0 : Int)) l.head? fun x =>
                                    gdK (some !!n == (0 : Int)) l.tail.head? fun x_3 =>
                                      gdK (some !!n == (0 : Int)) l.tail.tail.head? fun x_4 =>
                                        gdK (some !!n == (0 : Int)) (T.lst? 1 x) fun p =>
                                          gdK (some !!n == (0 : Int)) (T.int? IntKind.i64 x_3) fun n_3 =>
                                            gdK (some !!n == (0 : Int)) (T.int? IntKind.i64 x_4) fun n_4 =>
                                              gdK none
                                                (askO (some !!n == (0 : Int))
                                                  (O (Key.call 29)
                                                    [AV.agg
                                                        [AV.t (T.lst 1 p.fst p.snd), AV.t (T.int IntKind.i64 n_3),
                                                          AV.t (T.int IntKind.i64 n_4)],
                                                      AV.t (T.lst 2 ev1 v1)]
                                                    []))
                                                fun l =>
                                                gdK (some !!n == (0 : Int)) l.head? fun x =>
                                                  gdK (some !!n == (0 : Int)) x.bool? fun b =>
                                                    bif bif !n == (0 : Int) then true else !b then some [T.bool false]
                                                    else
                                                      O
                                                        K17n2
                                                        [AV.t (T.lst 3 ev0 v0), AV.t (T.lst 2 ev1 v1),
                                                          AV.t (T.int IntKind.i64 (IntKind.i64.wrap (v5 + (1 : Int))))]
                                                        []
  else some [T.bool true]) := by kernel_rfl
theorem e18 (O : Orc) (a0_0 : Int) (a0_1 : Int) (a1 : Int) : stepO PROG ann O (Key.call 18) [(AV.agg [(AV.t (T.int IntKind.i64 a0_0)), (AV.t (T.int IntKind.i64 a0_1))]), (AV.t (T.int IntKind.i64 a1))] [] =
  (some
    [T.bool
        (bif bif decide (a1 ≥ a0_0) then true else a0_0 == (-1000000 : Int) then
          bif decide (a1 ≤ a0_1) then true else a0_1 == (1000000 : Int)
        else false)]) := by kernel_rfl
theorem e4n18 (O : Orc) (ev1 : Bool) (v1 : List (List T)) (ev2 : Bool) (v2 : List (List T)) (ev8 : Bool) (v8 : List (List T)) (v14 : Int) : stepO PROG ann O K4n18 [(AV.t (T.lst 2 ev1 v1)), (AV.t (T.lst 1 ev2 v2)), (AV.t (T.lst 2 ev8 v8)), (AV.t (T.int IntKind.i64 v14))] [] =
  (bif decide (v14 < (↑v1.length : Int)) then
    gdK none (if (0 : Int) ≤ v14 ∧ v14 < (↑v8.length : Int) then some () else none) fun x =>
      gdK none v8[v14.toNat]? fun l =>
        gdK none l.head? fun x =>
          gdK none l.tail.head? fun x_1 =>
            gdK none (T.int? IntKind.i64 x) fun n =>
              gdK none (T.int? IntKind.i64 x_1) fun n_1 =>
                gdK none (if (0 : Int) ≤ v14 ∧ v14 < (↑v2.length : Int) then some () else none) fun x =>
                  gdK none v2[v14.toNat]? fun l =>
                    gdK none l.head? fun x =>
                      gdK none (T.int? IntKind.i64 x) fun n_2 =>
                        gdK none
                          (O (Key.call 18)
                            [AV.agg [AV.t (T.int IntKind.i64 n), AV.t (T.int IntKind.i64 n_1)],
                              AV.t (T.int IntKind.i64 n_2)]
                            [])
                          fun l =>
                          gdK none l.head? fun x =>
                            gdK none x.bool? fun b =>
                              bif !b then some [T.bool false]
                              else
                                O
                                  K4n18
                                  [AV.t (T.lst 2 ev1 v1), AV.t (T.lst 1 ev2 v2),
                                    AV.t (T.lst 2 ev8 v8),
                                    AV.t (T.int IntKind.i64 (IntKind.i64.wrap (v14 + (1 : Int))))]
                                  []
  else some [T.bool true]) := by kernel_rfl
theorem e28 (O : Orc) (ea0_0 : Bool) (a0_0 : List (List T)) (a0_1 : Int) (a0_2 : Int) (ea1 : Bool) (a1 : List (List T)) : stepO PROG ann O (Key.call 28) [(AV.agg [(AV.t (T.lst 1 ea0_0 a0_0)), (AV.t (T.int IntKind.i64 a0_1)), (AV.t (T.int IntKind.i64 a0_2))]), (AV.t (T.lst 2 ea1 a1))] [] =
  (gdK none
    (O (Key.call 34)
      [AV.agg [AV.t (T.lst 1 ea0_0 a0_0), AV.t (T.int IntKind.i64 a0_1), AV.t (T.int IntKind.i64 a0_2)],
        AV.t (T.int IntKind.i64 (↑a1.length : Int))]
      [])
    fun l =>
    gdK none l.head? fun x =>
      gdK none (T.int? IntKind.i64 x) fun n =>
        gdK none l.tail.head? fun x =>
          gdK none (T.int? IntKind.i64 x) fun n_1 =>
            O
              K28n3
              [AV.t (T.lst 2 ea1 a1), AV.ref (Id.c 0) 0, AV.ref (Id.c 1) 0,
                AV.t (T.int IntKind.i64 (0 : Int))]
              [Blk.box [AV.t (T.int IntKind.i64 (0 : Int)), AV.t (T.int IntKind.i64 (0 : Int))],
                Blk.box [AV.t (T.int IntKind.i64 n), AV.t (T.int IntKind.i64 n_1)]]) := by kernel_rfl
theorem e29 (O : Orc) (ea0_0 : Bool) (a0_0 : List (List T)) (a0_1 : Int) (a0_2 : Int) (ea1 : Bool) (a1 : List (List T)) : stepO PROG ann O (Key.call 29) [(AV.agg [(AV.t (T.lst 1 ea0_0 a0_0)), (AV.t (T.int IntKind.i64 a0_1)), (AV.t (T.int IntKind.i64 a0_2))]), (AV.t (T.lst 2 ea1 a1))] [] =
  (gdK none (O (Key.call 41) [AV.t (T.lst 1 ea0_0 a0_0), AV.t (T.lst 2 ea1 a1)] []) fun l =>
    gdK none l.head? fun x =>
      gdK none (O (Key.call 43) [AV.t (T.int IntKind.i64 a0_2), AV.t (T.int IntKind.i64 (1 : Int))] []) fun l =>
        gdK none l.head? fun x_1 =>
          gdK none (O (Key.call 42) [AV.t x, AV.t x_1] []) fun l =>
            gdK none l.head? fun x =>
              gdK none (T.int? IntKind.i64 x) fun n =>
                some
                  [T.bool
                      (bif bif decide (n < (0 : Int)) then !a0_1 == (3 : Int) else false then true
                      else bif n == (0 : Int) then !a0_1 == (2 : Int) else false)]) := by kernel_rfl
theorem e28n3 (O : Orc) (ev1 : Bool) (v1 : List (List T)) (v6 : Int) (c0_0 : Int) (c0_1 : Int) (c1_0 : Int) (c1_1 : Int) : stepO PROG ann O K28n3 [(AV.t (T.lst 2 ev1 v1)), (AV.ref (Id.c 0) 0), (AV.ref (Id.c 1) 0), (AV.t (T.int IntKind.i64 v6))] [(Blk.box [(AV.t (T.int IntKind.i64 c0_0)), (AV.t (T.int IntKind.i64 c0_1))]), (Blk.box [(AV.t (T.int IntKind.i64 c1_0)), (AV.t (T.int IntKind.i64 c1_1))])] =
  (bif bif decide (v6 < (↑v1.length : Int)) then c1_0 == (0 : Int) else false then
    gdK none (if (0 : Int) ≤ v6 ∧ v6 < (↑v1.length : Int) then some () else none) fun x =>
      gdK none v1[v6.toNat]? fun l =>
        gdK none l.head? fun x =>
          gdK none l.tail.head? fun x_1 =>
            gdK none (T.int? IntKind.i64 x) fun n =>
              gdK none (T.int? IntKind.i64 x_1) fun n_1 =>
                gdK none (O (Key.call 40) [AV.agg [AV.t (T.int IntKind.i64 n), AV.t (T.int IntKind.i64 n_1)]] [])
                  fun l =>
                  gdK none l.head? fun x =>
                    gdK none x.bool? fun b =>
                      bif !b then
                        gdK none
                          (O (Key.call 24) [AV.t (T.int IntKind.i64 (5 : Int)), AV.t (T.int IntKind.i64 v6)] [])
                          fun l =>
                          gdK none l.head? fun x =>
                            gdK none (T.int? IntKind.i64 x) fun n =>
                              gdK none l.tail.head? fun x =>
                                gdK none (T.int? IntKind.i64 x) fun n_2 =>
                                  O
                                    K28n3
                                    [AV.t (T.lst 2 ev1 v1), AV.ref (Id.c 0) 0,
                                      AV.ref (Id.c 1) 0,
                                      AV.t (T.int IntKind.i64 (IntKind.i64.wrap (v6 + (1 : Int))))]
                                    [Blk.box [AV.t (T.int IntKind.i64 c0_0), AV.t (T.int IntKind.i64 c0_1)],
                                      Blk.box [AV.t (T.int IntKind.i64 n), AV.t (T.int IntKind.i64 n_2)]]
                      else
                        O
                          K28n3
                          [AV.t (T.lst 2 ev1 v1), AV.ref (Id.c 0) 0,
                            AV.ref (Id.c 1) 0,
                            AV.t (T.int IntKind.i64 (IntKind.i64.wrap (v6 + (1 : Int))))]
                          [Blk.box [AV.t (T.int IntKind.i64 c0_0), AV.t (T.int IntKind.i64 c0_1)],
                            Blk.box [AV.t (T.int IntKind.i64 c1_0), AV.t (T.int IntKind.i64 c1_1)]]
  else some [T.int IntKind.i64 c1_0, T.int IntKind.i64 c1_1]) := by kernel_rfl
theorem e41 (O : Orc) (eo : Bool) (of : List (List T)) (en : Bool) (n : List (List T)) : stepO PROG ann O (Key.call 41) [AV.t (T.lst 1 eo of), AV.t (T.lst 2 en n)] [] =
  (gdK none (O (Key.call 43) [AV.t (T.int IntKind.i64 (0 : Int)), AV.t (T.int IntKind.i64 (1 : Int))] []) fun l =>
    gdK none l.head? fun x =>
      O
        K41n3
        [AV.t (T.lst 1 eo of), AV.t (T.lst 2 en n), AV.t x, AV.t (T.int IntKind.i64 (0 : Int))] []) := by kernel_rfl
theorem e41n3 (O : Orc) (ev0 : Bool) (v0 : List (List T)) (ev1 : Bool) (v1 : List (List T)) (v5 : T) (v6 : Int) : stepO PROG ann O K41n3 [(AV.t (T.lst 1 ev0 v0)), (AV.t (T.lst 2 ev1 v1)), (AV.t v5), (AV.t (T.int IntKind.i64 v6))] [] =
  (bif decide (v6 < (↑v0.length : Int)) then
    gdK none (if (0 : Int) ≤ v6 ∧ v6 < (↑v1.length : Int) then some () else none) fun x =>
      gdK none v1[v6.toNat]? fun l =>
        gdK none l.head? fun x =>
          gdK none l.tail.head? fun x_1 =>
            gdK none (T.int? IntKind.i64 x) fun n =>
              gdK none (T.int? IntKind.i64 x_1) fun n_1 =>
                gdK none (O (Key.call 57) [AV.agg [AV.t (T.int IntKind.i64 n), AV.t (T.int IntKind.i64 n_1)]] [])
                  fun l =>
                  gdK none l.head? fun x =>
                    gdK none (if (0 : Int) ≤ v6 ∧ v6 < (↑v0.length : Int) then some () else none) fun x_2 =>
                      gdK none v0[v6.toNat]? fun l =>
                        gdK none l.head? fun x_3 =>
                          gdK none (T.int? IntKind.i64 x_3) fun n =>
                            gdK none
                              (O (Key.call 43) [AV.t (T.int IntKind.i64 n), AV.t (T.int IntKind.i64 (1 : Int))]
                                [])
                              fun l =>
                              gdK none l.head? fun x_4 =>
                                gdK none
                                  (O (Key.call 56) [AV.ref (Id.c 0) 0, AV.t x, AV.t x_4]
                                    [Blk.box
                                        [AV.t (T.bool false), AV.t (T.emp true), AV.t (T.bool false), AV.t (T.emp true)]])
                                  fun l =>
                                  gdK none l.head? fun x =>
                                    gdK none (List.drop 1 l).head? fun x =>
                                      gdK none x.bool? fun b =>
                                        gdK none (List.drop 1 l).tail.head? fun x =>
                                          gdK none (T.lst? 1 x) fun p =>
                                            gdK none (List.drop 1 l).tail.tail.head? fun x =>
                                              gdK none x.bool? fun b_1 =>
                                                gdK none (List.drop 1 l).tail.tail.tail.head? fun x =>
                                                  gdK none (T.lst? 1 x) fun p_1 =>
                                                    gdK none
                                                      (O (Key.call 58)
                                                        [AV.ref (Id.c 0) 0, AV.t v5,
                                                          AV.t
                                                            (T.ptr
                                                              [T.bool b, T.lst 1 p.fst p.snd, T.bool b_1,
                                                                T.lst 1 p_1.fst p_1.snd])]
                                                        [Blk.box
                                                            [AV.t (T.bool false), AV.t (T.emp true), AV.t (T.bool false),
                                                              AV.t (T.emp true)]])
                                                      fun l =>
                                                      gdK none l.head? fun x =>
                                                        gdK none (List.drop 1 l).head? fun x =>
                                                          gdK none x.bool? fun b =>
                                                            gdK none (List.drop 1 l).tail.head? fun x =>
                                                              gdK none (T.lst? 1 x) fun p =>
                                                                gdK none (List.drop 1 l).tail.tail.head? fun x =>
                                                                  gdK none x.bool? fun b_2 =>
                                                                    gdK none (List.drop 1 l).tail.tail.tail.head?
                                                                      fun x =>
                                                                      gdK none (T.lst? 1 x) fun p_2 =>
                                                                        O
                                                                          K41n3
                                                                          [AV.t (T.lst 1 ev0 v0),
                                                                            AV.t (T.lst 2 ev1 v1),
                                                                            AV.t
                                                                              (T.ptr
                                                                                [T.bool b, T.lst 1 p.fst p.snd,
                                                                                  T.bool b_2,
                                                                                  T.lst 1 p_2.fst p_2.snd]),
                                                                            AV.t
                                                                              (T.int IntKind.i64
                                                                                (IntKind.i64.wrap (v6 + (1 : Int))))]
                                                                          []
  else some [v5]) := by kernel_rfl
theorem e41n3s2 (O : Orc) (ev0 : Bool) (v0 : List (List T)) (ev1 : Bool) (v1 : List (List T)) (v5_0 : Bool) (ev5_1 : Bool) (v5_1 : List (List T)) (v5_2 : Bool) (ev5_3 : Bool) (v5_3 : List (List T)) (v6 : Int) : stepO PROG ann O K41n3 [(AV.t (T.lst 1 ev0 v0)), (AV.t (T.lst 2 ev1 v1)), (AV.t (T.ptr [(T.bool v5_0), (T.lst 1 ev5_1 v5_1), (T.bool v5_2), (T.lst 1 ev5_3 v5_3)])), (AV.t (T.int IntKind.i64 v6))] [] =
  (bif decide (v6 < (↑v0.length : Int)) then
    gdK none (if (0 : Int) ≤ v6 ∧ v6 < (↑v1.length : Int) then some () else none) fun x =>
      gdK none v1[v6.toNat]? fun l =>
        gdK none l.head? fun x =>
          gdK none l.tail.head? fun x_1 =>
            gdK none (T.int? IntKind.i64 x) fun n =>
              gdK none (T.int? IntKind.i64 x_1) fun n_1 =>
                gdK none (O (Key.call 57) [AV.agg [AV.t (T.int IntKind.i64 n), AV.t (T.int IntKind.i64 n_1)]] [])
                  fun l =>
                  gdK none l.head? fun x =>
                    gdK none (if (0 : Int) ≤ v6 ∧ v6 < (↑v0.length : Int) then some () else none) fun x_2 =>
                      gdK none v0[v6.toNat]? fun l =>
                        gdK none l.head? fun x_3 =>
                          gdK none (T.int? IntKind.i64 x_3) fun n =>
                            gdK none
                              (O (Key.call 43) [AV.t (T.int IntKind.i64 n), AV.t (T.int IntKind.i64 (1 : Int))]
                                [])
                              fun l =>
                              gdK none l.head? fun x_4 =>
                                gdK none
                                  (O (Key.call 56) [AV.ref (Id.c 0) 0, AV.t x, AV.t x_4]
                                    [Blk.box
                                        [AV.t (T.bool false), AV.t (T.emp true), AV.t (T.bool false), AV.t (T.emp true)]])
                                  fun l =>
                                  gdK none l.head? fun x =>
                                    gdK none (List.drop 1 l).head? fun x =>
                                      gdK none x.bool? fun b =>
                                        gdK none (List.drop 1 l).tail.head? fun x =>
                                          gdK none (T.lst? 1 x) fun p =>
                                            gdK none (List.drop 1 l).tail.tail.head? fun x =>
                                              gdK none x.bool? fun b_1 =>
                                                gdK none (List.drop 1 l).tail.tail.tail.head? fun x =>
                                                  gdK none (T.lst? 1 x) fun p_1 =>
                                                    gdK none
                                                      (O (Key.call 58)
                                                        [AV.ref (Id.c 0) 0,
                                                          AV.t
                                                            (T.ptr
                                                              [T.bool v5_0, T.lst 1 ev5_1 v5_1, T.bool v5_2,
                                                                T.lst 1 ev5_3 v5_3]),
                                                          AV.t
                                                            (T.ptr
                                                              [T.bool b, T.lst 1 p.fst p.snd, T.bool b_1,
                                                                T.lst 1 p_1.fst p_1.snd])]
                                                        [Blk.box
                                                            [AV.t (T.bool false), AV.t (T.emp true), AV.t (T.bool false),
                                                              AV.t (T.emp true)]])
                                                      fun l =>
                                                      gdK none l.head? fun x =>
                                                        gdK none (List.drop 1 l).head? fun x =>
                                                          gdK none x.bool? fun b =>
                                                            gdK none (List.drop 1 l).tail.head? fun x =>
                                                              gdK none (T.lst? 1 x) fun p =>
                                                                gdK none (List.drop 1 l).tail.tail.head? fun x =>
                                                                  gdK none x.bool? fun b_2 =>
                                                                    gdK none (List.drop 1 l).tail.tail.tail.head?
                                                                      fun x =>
                                                                      gdK none (T.lst? 1 x) fun p_2 =>
                                                                        O
                                                                          K41n3
                                                                          [AV.t (T.lst 1 ev0 v0),
                                                                            AV.t (T.lst 2 ev1 v1),
                                                                            AV.t
                                                                              (T.ptr
                                                                                [T.bool b, T.lst 1 p.fst p.snd,
                                                                                  T.bool b_2,
                                                                                  T.lst 1 p_2.fst p_2.snd]),
                                                                            AV.t
                                                                              (T.int IntKind.i64
                                                                                (IntKind.i64.wrap (v6 + (1 : Int))))]
                                                                          []
  else some [T.ptr [T.bool v5_0, T.lst 1 ev5_1 v5_1, T.bool v5_2, T.lst 1 ev5_3 v5_3]]) := by kernel_rfl
end Go.Aev.Gen
