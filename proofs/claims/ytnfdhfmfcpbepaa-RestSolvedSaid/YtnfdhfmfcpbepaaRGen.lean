/-
  The classes of rests, as the evaluator reads them.
-/
import Derived.Test.YtnfdhfmfcpbepaaAevGlue
import Derived.Test.YtnfdhfmfcpbepaaChecked
import Derived.KernelRfl
set_option linter.unusedSimpArgs false
set_option linter.unusedVariables false
namespace Go.Aev.Gen
open Go Go.Aev
noncomputable abbrev PROG := Go.Proofs.Try.prog
def ann : Ann := Ann.mk (fun f r => match f, r with
    | 3, 7 => some [(2, none), (3, none), (4, none), (7, none), (8, none), (9, none), (10, none), (11, none), (13, none)]
    | 7, 13 => some [(0, none), (4, none), (5, none), (9, none)]
    | 10, 4 => some [(0, none), (2, none), (3, none), (4, none), (22, none), (23, none), (24, none)]
    | 10, 10 => some [(0, none), (2, none), (3, none), (4, none), (37, none), (38, none), (39, none)]
    | 10, 13 => some [(0, none), (2, none), (3, none), (4, none), (7, none), (8, none), (37, none), (38, none), (39, none), (46, none), (47, none), (48, none)]
    | 10, 22 => some [(2, none), (3, none), (4, none), (13, none), (69, none), (70, none), (71, none)]
    | 12, 4 => some [(0, none), (2, none), (3, none), (4, none), (5, none)]
    | 12, 9 => some [(0, none), (2, none), (3, none), (4, none), (6, none)]
    | 12, 12 => some [(0, none), (2, none), (3, none), (4, none), (6, none), (7, none)]
    | 12, 18 => some [(0, none), (2, none), (3, none), (4, none), (8, none), (9, none)]
    | 15, 6 => some [(2, none), (3, none), (4, none), (6, none), (7, none), (8, none)]
    | 18, 3 => some [(0, none), (1, none), (2, none), (6, none), (8, none), (9, none)]
    | 22, 1 => some [(0, none), (1, none)]
    | 24, 2 => some [(0, none), (1, none), (6, none), (7, none)]
    | _, _ => none) (fun _ _ => none) (fun _ => none)
theorem hm : PROG.follows .mixedOrders = true := by kernel_rfl
noncomputable abbrev K3n7 : Key := nodeKey PROG 3 true 7 [(2, none), (3, none), (4, none), (7, none), (8, none), (9, none), (10, none), (11, none), (13, none)] 0
noncomputable abbrev K10n4 : Key := nodeKey PROG 10 true 4 [(0, none), (2, none), (3, none), (4, none), (22, none), (23, none), (24, none)] 0
noncomputable abbrev K10n10 : Key := nodeKey PROG 10 true 10 [(0, none), (2, none), (3, none), (4, none), (37, none), (38, none), (39, none)] 0
noncomputable abbrev K12n4 : Key := nodeKey PROG 12 true 4 [(0, none), (2, none), (3, none), (4, none), (5, none)] 0
noncomputable abbrev K15n6 : Key := nodeKey PROG 15 true 6 [(2, none), (3, none), (4, none), (6, none), (7, none), (8, none)] 0
noncomputable abbrev K24n2 : Key := nodeKey PROG 24 true 2 [(0, none), (1, none), (6, none), (7, none)] 0
noncomputable abbrev K10n13 : Key := nodeKey PROG 10 true 13 [(0, none), (2, none), (3, none), (4, none), (7, none), (8, none), (37, none), (38, none), (39, none), (46, none), (47, none), (48, none)] 0
noncomputable abbrev K10n22 : Key := nodeKey PROG 10 true 22 [(2, none), (3, none), (4, none), (13, none), (69, none), (70, none), (71, none)] 0
noncomputable abbrev K12n9 : Key := nodeKey PROG 12 true 9 [(0, none), (2, none), (3, none), (4, none), (6, none)] 0
noncomputable abbrev K22n1 : Key := nodeKey PROG 22 true 1 [(0, none), (1, none)] 0
noncomputable abbrev K12n12 : Key := nodeKey PROG 12 true 12 [(0, none), (2, none), (3, none), (4, none), (6, none), (7, none)] 0
noncomputable abbrev K12n18 : Key := nodeKey PROG 12 true 18 [(0, none), (2, none), (3, none), (4, none), (8, none), (9, none)] 0
noncomputable abbrev K18n3 : Key := nodeKey PROG 18 true 3 [(0, none), (1, none), (2, none), (6, none), (8, none), (9, none)] 0
noncomputable abbrev K7n13 : Key := nodeKey PROG 7 true 13 [(0, none), (4, none), (5, none), (9, none)] 0
theorem e3 (O : Orc) (a0_0 a0_1 a1_0 a1_1 : Int) (ea2 : Bool) (a2 : List (List T)) : stepO PROG ann O (Key.call 3) [AV.agg [AV.t (T.int IntKind.i64 a0_0), AV.t (T.int IntKind.i64 a0_1)], AV.agg [AV.t (T.int IntKind.i64 a1_0), AV.t (T.int IntKind.i64 a1_1)], AV.t (T.lst 2 ea2 a2)] [] =
  (gdK none
    (O (Key.call 9)
      [AV.agg [AV.t (T.int IntKind.i64 a0_0), AV.t (T.int IntKind.i64 a0_1)],
        AV.agg [AV.t (T.int IntKind.i64 a1_0), AV.t (T.int IntKind.i64 a1_1)]]
      [])
    fun l =>
    gdK none l.head? fun x =>
      gdK none (T.int? IntKind.i64 x) fun n =>
        gdK none l.tail.head? fun x =>
          gdK none (T.int? IntKind.i64 x) fun n_1 =>
            gdK none (List.drop 2 l).head? fun x =>
              gdK none (T.int? IntKind.i64 x) fun n_2 =>
                gdK none (List.drop 2 l).tail.head? fun x =>
                  gdK none (T.int? IntKind.i64 x) fun n_3 =>
                    gdK none (O (Key.call 10) [AV.t (T.lst 2 ea2 a2)] []) fun l =>
                      gdK none l.head? fun x =>
                        gdK none (T.int? IntKind.i64 x) fun n_4 =>
                          gdK none l.tail.head? fun x =>
                            gdK none (T.int? IntKind.i64 x) fun n_5 =>
                              gdK none (List.drop 2 l).head? fun x =>
                                gdK none (T.int? IntKind.i64 x) fun n_6 =>
                                  gdK none (List.drop 2 l).tail.head? fun x =>
                                    gdK none (T.int? IntKind.i64 x) fun n_7 =>
                                      gdK none (List.drop 2 (List.drop 2 l)).head? fun x =>
                                        gdK none (T.int? IntKind.i64 x) fun n_8 =>
                                          gdK none (List.drop 2 (List.drop 2 l)).tail.head? fun x =>
                                            gdK none (T.int? IntKind.i64 x) fun n_9 =>
                                              gdK none (O (Key.call 11) [] []) fun l =>
                                                gdK none l.head? fun x =>
                                                  gdK none x.bool? fun b =>
                                                    bif !b then some [T.bool false]
                                                    else
                                                      O
                                                        K3n7
                                                        [AV.t (T.lst 2 ea2 a2), AV.ref (Id.c 0) 0,
                                                          AV.ref (Id.c 1) 0,
                                                          AV.ref (Id.c 2) 0,
                                                          AV.ref (Id.c 3) 0,
                                                          AV.ref (Id.c 4) 0,
                                                          AV.ref (Id.c 5) 0,
                                                          AV.ref (Id.c 6) 0,
                                                          AV.t (T.int IntKind.i64 (0 : Int))]
                                                        [Blk.box
                                                            [AV.t (T.int IntKind.i64 a0_0),
                                                              AV.t (T.int IntKind.i64 a0_1)],
                                                          Blk.box
                                                            [AV.t (T.int IntKind.i64 a1_0),
                                                              AV.t (T.int IntKind.i64 a1_1)],
                                                          Blk.box
                                                            [AV.t (T.int IntKind.i64 n), AV.t (T.int IntKind.i64 n_1)],
                                                          Blk.box
                                                            [AV.t (T.int IntKind.i64 n_2), AV.t (T.int IntKind.i64 n_3)],
                                                          Blk.box
                                                            [AV.t (T.int IntKind.i64 n_4), AV.t (T.int IntKind.i64 n_5)],
                                                          Blk.box
                                                            [AV.t (T.int IntKind.i64 n_6), AV.t (T.int IntKind.i64 n_7)],
                                                          Blk.box
                                                            [AV.t (T.int IntKind.i64 n_8), AV.t (T.int IntKind.i64 n_9)]]) := by kernel_rfl
theorem e9 (O : Orc) (a0_0 : Int) (a0_1 : Int) (a1_0 : Int) (a1_1 : Int) : stepO PROG ann O (Key.call 9) [(AV.agg [(AV.t (T.int IntKind.i64 a0_0)), (AV.t (T.int IntKind.i64 a0_1))]), (AV.agg [(AV.t (T.int IntKind.i64 a1_0)), (AV.t (T.int IntKind.i64 a1_1))])] [] =
  (gdK none (O (Key.call 20) [AV.agg [AV.t (T.int IntKind.i64 a0_0), AV.t (T.int IntKind.i64 a0_1)]] []) fun l =>
    gdK none l.head? fun x =>
      gdK none x.bool? fun b =>
        bif !b then
          some
            [T.int IntKind.i64 (0 : Int), T.int IntKind.i64 (0 : Int), T.int IntKind.i64 (3 : Int),
              T.int IntKind.i64 (0 : Int)]
        else
          gdK none (O (Key.call 20) [AV.agg [AV.t (T.int IntKind.i64 a1_0), AV.t (T.int IntKind.i64 a1_1)]] [])
            fun l =>
            gdK none l.head? fun x =>
              gdK none x.bool? fun b =>
                bif !b then
                  some
                    [T.int IntKind.i64 (0 : Int), T.int IntKind.i64 (0 : Int), T.int IntKind.i64 (3 : Int),
                      T.int IntKind.i64 (1 : Int)]
                else
                  gdK none
                    (O (Key.call 21)
                      [AV.agg [AV.t (T.int IntKind.i64 a0_0), AV.t (T.int IntKind.i64 a0_1)],
                        AV.agg [AV.t (T.int IntKind.i64 a1_0), AV.t (T.int IntKind.i64 a1_1)]]
                      [])
                    fun l =>
                    gdK none l.head? fun x =>
                      gdK none (T.int? IntKind.i64 x) fun n =>
                        gdK none l.tail.head? fun x =>
                          gdK none (T.int? IntKind.i64 x) fun n_1 =>
                            gdK none (List.drop 2 l).head? fun x =>
                              gdK none x.bool? fun b =>
                                bif !b then
                                  some
                                    [T.int IntKind.i64 (0 : Int), T.int IntKind.i64 (0 : Int),
                                      T.int IntKind.i64 (6 : Int), T.int IntKind.i64 (0 : Int)]
                                else
                                  bif decide (n_1 > (1000000 : Int)) then
                                    some
                                      [T.int IntKind.i64 (0 : Int), T.int IntKind.i64 (0 : Int),
                                        T.int IntKind.i64 (10 : Int), T.int IntKind.i64 (0 : Int)]
                                  else
                                    some
                                      [T.int IntKind.i64 n, T.int IntKind.i64 n_1, T.int IntKind.i64 (0 : Int),
                                        T.int IntKind.i64 (0 : Int)]) := by kernel_rfl
theorem e10 (O : Orc) (ea0 : Bool) (a0 : List (List T)) : stepO PROG ann O (Key.call 10) [(AV.t (T.lst 2 ea0 a0))] [] =
  (bif decide ((↑a0.length : Int) > (40 : Int)) then
    some
      [T.int IntKind.i64 (0 : Int), T.int IntKind.i64 (0 : Int), T.int IntKind.i64 (0 : Int), T.int IntKind.i64 (0 : Int),
        T.int IntKind.i64 (2 : Int), T.int IntKind.i64 (0 : Int)]
  else
    O
      K10n4
      [AV.t (T.lst 2 ea0 a0), AV.ref (Id.c 0) 0, AV.ref (Id.c 1) 0,
        AV.ref (Id.c 2) 0, AV.t (T.lst 2 ea0 a0), AV.t (T.int IntKind.i64 (↑a0.length : Int)),
        AV.t (T.int IntKind.i64 (0 : Int))]
      [Blk.box [AV.t (T.int IntKind.i64 (0 : Int)), AV.t (T.int IntKind.i64 (0 : Int))],
        Blk.box [AV.t (T.int IntKind.i64 (0 : Int)), AV.t (T.int IntKind.i64 (0 : Int))],
        Blk.box [AV.t (T.int IntKind.i64 (0 : Int)), AV.t (T.int IntKind.i64 (0 : Int))]]) := by kernel_rfl
theorem e3n7 (O : Orc) (ev2 : Bool) (v2 : List (List T)) (v13 : Int) (c0_0 : Int) (c0_1 : Int) (c1_0 : Int) (c1_1 : Int) (c2_0 : Int) (c2_1 : Int) (c3_0 : Int) (c3_1 : Int) (c4_0 : Int) (c4_1 : Int) (c5_0 : Int) (c5_1 : Int) (c6_0 : Int) (c6_1 : Int) : stepO PROG ann O K3n7 [(AV.t (T.lst 2 ev2 v2)), (AV.ref (Id.c 0) 0), (AV.ref (Id.c 1) 0), (AV.ref (Id.c 2) 0), (AV.ref (Id.c 3) 0), (AV.ref (Id.c 4) 0), (AV.ref (Id.c 5) 0), (AV.ref (Id.c 6) 0), (AV.t (T.int IntKind.i64 v13))] [(Blk.box [(AV.t (T.int IntKind.i64 c0_0)), (AV.t (T.int IntKind.i64 c0_1))]), (Blk.box [(AV.t (T.int IntKind.i64 c1_0)), (AV.t (T.int IntKind.i64 c1_1))]), (Blk.box [(AV.t (T.int IntKind.i64 c2_0)), (AV.t (T.int IntKind.i64 c2_1))]), (Blk.box [(AV.t (T.int IntKind.i64 c3_0)), (AV.t (T.int IntKind.i64 c3_1))]), (Blk.box [(AV.t (T.int IntKind.i64 c4_0)), (AV.t (T.int IntKind.i64 c4_1))]), (Blk.box [(AV.t (T.int IntKind.i64 c5_0)), (AV.t (T.int IntKind.i64 c5_1))]), (Blk.box [(AV.t (T.int IntKind.i64 c6_0)), (AV.t (T.int IntKind.i64 c6_1))])] =
  (bif decide (v13 < (↑v2.length : Int)) then
    gdK none (if (0 : Int) ≤ v13 ∧ v13 < (↑v2.length : Int) then some () else none) fun x =>
      gdK none v2[v13.toNat]? fun l =>
        gdK none (List.drop 1 l).head? fun x =>
          gdK none (T.int? IntKind.i64 x) fun n =>
            bif decide (n > (3000 : Int)) then some [T.bool true]
            else
              O
                K3n7
                [AV.t (T.lst 2 ev2 v2), AV.ref (Id.c 0) 0, AV.ref (Id.c 1) 0,
                  AV.ref (Id.c 2) 0, AV.ref (Id.c 3) 0, AV.ref (Id.c 4) 0,
                  AV.ref (Id.c 5) 0, AV.ref (Id.c 6) 0,
                  AV.t (T.int IntKind.i64 (IntKind.i64.wrap (v13 + (1 : Int))))]
                [Blk.box [AV.t (T.int IntKind.i64 c0_0), AV.t (T.int IntKind.i64 c0_1)],
                  Blk.box [AV.t (T.int IntKind.i64 c1_0), AV.t (T.int IntKind.i64 c1_1)],
                  Blk.box [AV.t (T.int IntKind.i64 c2_0), AV.t (T.int IntKind.i64 c2_1)],
                  Blk.box [AV.t (T.int IntKind.i64 c3_0), AV.t (T.int IntKind.i64 c3_1)],
                  Blk.box [AV.t (T.int IntKind.i64 c4_0), AV.t (T.int IntKind.i64 c4_1)],
                  Blk.box [AV.t (T.int IntKind.i64 c5_0), AV.t (T.int IntKind.i64 c5_1)],
                  Blk.box [AV.t (T.int IntKind.i64 c6_0), AV.t (T.int IntKind.i64 c6_1)]]
  else
    bif bif decide (c0_1 > (3000 : Int)) then true else decide (c1_1 > (3000 : Int)) then some [T.bool true]
    else
      gdK none (O (Key.call 12) [AV.t (T.lst 2 ev2 v2)] []) fun l =>
        gdK none l.head? fun x =>
          gdK none (T.int? IntKind.i64 x) fun n =>
            gdK none l.tail.head? fun x =>
              gdK none (T.int? IntKind.i64 x) fun n_1 =>
                gdK none (List.drop 2 l).head? fun x =>
                  gdK none (T.int? IntKind.i64 x) fun n_2 =>
                    gdK none (List.drop 2 l).tail.head? fun x =>
                      gdK none (T.int? IntKind.i64 x) fun n_3 =>
                        gdK none (List.drop 2 (List.drop 2 l)).head? fun x =>
                          gdK none (T.int? IntKind.i64 x) fun n_4 =>
                            gdK none (List.drop 2 (List.drop 2 l)).tail.head? fun x =>
                              gdK none (T.int? IntKind.i64 x) fun n_5 =>
                                bif
                                    bif
                                        bif !(c6_0 == n_4 && (c6_1 == n_5 && true)) then true
                                        else !(c5_0 == n_2 && (c5_1 == n_3 && true)) then
                                      true
                                    else !(c4_0 == n && (c4_1 == n_1 && true)) then
                                  some [T.bool false]
                                else
                                  gdK none
                                    (O (Key.call 13)
                                      [AV.agg [AV.t (T.int IntKind.i64 c0_0), AV.t (T.int IntKind.i64 c0_1)]] [])
                                    fun l =>
                                    gdK none l.head? fun x =>
                                      gdK none x.bool? fun b =>
                                        bif !b then
                                          gdK none
                                            (O (Key.call 14)
                                              [AV.t (T.int IntKind.i64 (3 : Int)), AV.t (T.int IntKind.i64 (0 : Int))] [])
                                            fun l =>
                                            gdK none l.head? fun x =>
                                              gdK none (T.int? IntKind.i64 x) fun n =>
                                                gdK none l.tail.head? fun x =>
                                                  gdK none (T.int? IntKind.i64 x) fun n_6 =>
                                                    some
                                                      [T.bool
                                                          (bif c3_0 == n && (c3_1 == n_6 && true) then
                                                            c2_0 == (0 : Int) && (c2_1 == (0 : Int) && true)
                                                          else false)]
                                        else
                                          gdK none
                                            (O (Key.call 13)
                                              [AV.agg [AV.t (T.int IntKind.i64 c1_0), AV.t (T.int IntKind.i64 c1_1)]] [])
                                            fun l =>
                                            gdK none l.head? fun x =>
                                              gdK none x.bool? fun b =>
                                                bif !b then
                                                  gdK none
                                                    (O (Key.call 14)
                                                      [AV.t (T.int IntKind.i64 (3 : Int)),
                                                        AV.t (T.int IntKind.i64 (1 : Int))]
                                                      [])
                                                    fun l =>
                                                    gdK none l.head? fun x =>
                                                      gdK none (T.int? IntKind.i64 x) fun n =>
                                                        gdK none l.tail.head? fun x =>
                                                          gdK none (T.int? IntKind.i64 x) fun n_6 =>
                                                            some
                                                              [T.bool
                                                                  (bif c3_0 == n && (c3_1 == n_6 && true) then
                                                                    c2_0 == (0 : Int) && (c2_1 == (0 : Int) && true)
                                                                  else false)]
                                                else
                                                  gdK none
                                                    (O (Key.call 15)
                                                      [AV.agg
                                                          [AV.t (T.int IntKind.i64 c0_0), AV.t (T.int IntKind.i64 c0_1)],
                                                        AV.agg
                                                          [AV.t (T.int IntKind.i64 c1_0), AV.t (T.int IntKind.i64 c1_1)]]
                                                      [])
                                                    fun l =>
                                                    gdK none l.head? fun x =>
                                                      gdK none (T.int? IntKind.i64 x) fun n =>
                                                        gdK none l.tail.head? fun x =>
                                                          gdK none (T.int? IntKind.i64 x) fun n_6 =>
                                                            gdK none (List.drop 2 l).head? fun x =>
                                                              gdK none x.bool? fun b =>
                                                                bif !b then
                                                                  gdK none
                                                                    (O (Key.call 14)
                                                                      [AV.t (T.int IntKind.i64 (6 : Int)),
                                                                        AV.t (T.int IntKind.i64 (0 : Int))]
                                                                      [])
                                                                    fun l =>
                                                                    gdK none l.head? fun x =>
                                                                      gdK none (T.int? IntKind.i64 x) fun n =>
                                                                        gdK none l.tail.head? fun x =>
                                                                          gdK none (T.int? IntKind.i64 x) fun n_7 =>
                                                                            some
                                                                              [T.bool
                                                                                  (bif
                                                                                      c3_0 == n &&
                                                                                        (c3_1 == n_7 && true) then
                                                                                    c2_0 == (0 : Int) &&
                                                                                      (c2_1 == (0 : Int) && true)
                                                                                  else false)]
                                                                else
                                                                  bif decide (n_6 > (1000000 : Int)) then
                                                                    gdK none
                                                                      (O (Key.call 14)
                                                                        [AV.t (T.int IntKind.i64 (10 : Int)),
                                                                          AV.t (T.int IntKind.i64 (0 : Int))]
                                                                        [])
                                                                      fun l =>
                                                                      gdK none l.head? fun x =>
                                                                        gdK none (T.int? IntKind.i64 x) fun n =>
                                                                          gdK none l.tail.head? fun x =>
                                                                            gdK none (T.int? IntKind.i64 x) fun n_7 =>
                                                                              some
                                                                                [T.bool
                                                                                    (bif
                                                                                        c3_0 == n &&
                                                                                          (c3_1 == n_7 && true) then
                                                                                      c2_0 == (0 : Int) &&
                                                                                        (c2_1 == (0 : Int) && true)
                                                                                    else false)]
                                                                  else
                                                                    some
                                                                      [T.bool
                                                                          (bif c3_0 == (0 : Int) then
                                                                            c2_0 == n && (c2_1 == n_6 && true)
                                                                          else false)]) := by kernel_rfl
theorem e20 (O : Orc) (a0_0 : Int) (a0_1 : Int) : stepO PROG ann O (Key.call 20) [(AV.agg [(AV.t (T.int IntKind.i64 a0_0)), (AV.t (T.int IntKind.i64 a0_1))])] [] =
  (some
    [T.bool
        (bif
            bif bif decide (a0_1 ≥ (1 : Int)) then decide (a0_1 ≤ (1000000 : Int)) else false then
              decide (a0_0 ≥ (0 : Int))
            else false then
          decide (a0_0 < a0_1)
        else false)]) := by kernel_rfl
theorem e21 (O : Orc) (a0_0 : Int) (a0_1 : Int) (a1_0 : Int) (a1_1 : Int) : stepO PROG ann O (Key.call 21) [(AV.agg [(AV.t (T.int IntKind.i64 a0_0)), (AV.t (T.int IntKind.i64 a0_1))]), (AV.agg [(AV.t (T.int IntKind.i64 a1_0)), (AV.t (T.int IntKind.i64 a1_1))])] [] =
  (gdK none (O (Key.call 24) [AV.t (T.int IntKind.i64 a0_1), AV.t (T.int IntKind.i64 a1_1)] []) fun l =>
    gdK none l.head? fun x =>
      gdK none (T.int? IntKind.i64 x) fun n =>
        gdK none l.tail.head? fun x =>
          gdK none (T.int? IntKind.i64 x) fun n_1 =>
            gdK none (if n = (0 : Int) then none else some ()) fun x =>
              bif !(IntKind.i64.wrap (a1_0 - a0_0)).tmod n == (0 : Int) then
                some [T.int IntKind.i64 (0 : Int), T.int IntKind.i64 (0 : Int), T.bool false]
              else
                gdK none (if n = (0 : Int) then none else some ()) fun x =>
                  gdK none (if n = (0 : Int) then none else some ()) fun x =>
                    gdK none
                      (O (Key.call 25)
                        [AV.t (T.int IntKind.i64 (IntKind.i64.wrap ((IntKind.i64.wrap (a1_0 - a0_0)).tdiv n))),
                          AV.t (T.int IntKind.i64 (IntKind.i64.wrap (a1_1.tdiv n)))]
                        [])
                      fun l =>
                      gdK none l.head? fun x =>
                        gdK none (T.int? IntKind.i64 x) fun n_2 =>
                          gdK none
                            (O (Key.call 25)
                              [AV.t (T.int IntKind.i64 n_1), AV.t (T.int IntKind.i64 (IntKind.i64.wrap (a1_1.tdiv n)))]
                              [])
                            fun l =>
                            gdK none l.head? fun x =>
                              gdK none (T.int? IntKind.i64 x) fun n_3 =>
                                gdK none
                                  (O (Key.call 25)
                                    [AV.t (T.int IntKind.i64 (IntKind.i64.wrap (n_2 * n_3))),
                                      AV.t (T.int IntKind.i64 (IntKind.i64.wrap (a1_1.tdiv n)))]
                                    [])
                                  fun l =>
                                  gdK none l.head? fun x =>
                                    gdK none (T.int? IntKind.i64 x) fun n_4 =>
                                      some
                                        [T.int IntKind.i64 (IntKind.i64.wrap (a0_0 + IntKind.i64.wrap (n_4 * a0_1))),
                                          T.int IntKind.i64 (IntKind.i64.wrap (a0_1 * IntKind.i64.wrap (a1_1.tdiv n))),
                                          T.bool true]) := by kernel_rfl
theorem e10n4 (O : Orc) (ev0 : Bool) (v0 : List (List T)) (ev22 : Bool) (v22 : List (List T)) (v23 : Int) (v24 : Int) (c0_0 : Int) (c0_1 : Int) (c1_0 : Int) (c1_1 : Int) (c2_0 : Int) (c2_1 : Int) : stepO PROG ann O K10n4 [(AV.t (T.lst 2 ev0 v0)), (AV.ref (Id.c 0) 0), (AV.ref (Id.c 1) 0), (AV.ref (Id.c 2) 0), (AV.t (T.lst 2 ev22 v22)), (AV.t (T.int IntKind.i64 v23)), (AV.t (T.int IntKind.i64 v24))] [(Blk.box [(AV.t (T.int IntKind.i64 c0_0)), (AV.t (T.int IntKind.i64 c0_1))]), (Blk.box [(AV.t (T.int IntKind.i64 c1_0)), (AV.t (T.int IntKind.i64 c1_1))]), (Blk.box [(AV.t (T.int IntKind.i64 c2_0)), (AV.t (T.int IntKind.i64 c2_1))])] =
  (bif decide (v24 < v23) then
    gdK none (if (0 : Int) ≤ v24 ∧ v24 < (↑v22.length : Int) then some () else none) fun x =>
      gdK none v22[v24.toNat]? fun l =>
        gdK none l.head? fun x =>
          gdK none l.tail.head? fun x_1 =>
            gdK none (T.int? IntKind.i64 x) fun n =>
              gdK none (T.int? IntKind.i64 x_1) fun n_1 =>
                gdK none (O (Key.call 20) [AV.agg [AV.t (T.int IntKind.i64 n), AV.t (T.int IntKind.i64 n_1)]] [])
                  fun l =>
                  gdK none l.head? fun x =>
                    gdK none x.bool? fun b =>
                      bif !b then
                        some
                          [T.int IntKind.i64 (0 : Int), T.int IntKind.i64 (0 : Int), T.int IntKind.i64 (0 : Int),
                            T.int IntKind.i64 (0 : Int), T.int IntKind.i64 (3 : Int), T.int IntKind.i64 v24]
                      else
                        O
                          K10n4
                          [AV.t (T.lst 2 ev0 v0), AV.ref (Id.c 0) 0,
                            AV.ref (Id.c 1) 0, AV.ref (Id.c 2) 0,
                            AV.t (T.lst 2 ev22 v22), AV.t (T.int IntKind.i64 v23),
                            AV.t (T.int IntKind.i64 (IntKind.i64.wrap (v24 + (1 : Int))))]
                          [Blk.box [AV.t (T.int IntKind.i64 c0_0), AV.t (T.int IntKind.i64 c0_1)],
                            Blk.box [AV.t (T.int IntKind.i64 c1_0), AV.t (T.int IntKind.i64 c1_1)],
                            Blk.box [AV.t (T.int IntKind.i64 c2_0), AV.t (T.int IntKind.i64 c2_1)]]
  else
    O
      K10n10
      [AV.t (T.lst 2 ev0 v0), AV.ref (Id.c 0) 0, AV.ref (Id.c 1) 0,
        AV.ref (Id.c 2) 0, AV.t (T.lst 2 ev0 v0), AV.t (T.int IntKind.i64 (↑v0.length : Int)),
        AV.t (T.int IntKind.i64 (0 : Int))]
      [Blk.box [AV.t (T.int IntKind.i64 c0_0), AV.t (T.int IntKind.i64 c0_1)],
        Blk.box [AV.t (T.int IntKind.i64 c1_0), AV.t (T.int IntKind.i64 c1_1)],
        Blk.box [AV.t (T.int IntKind.i64 c2_0), AV.t (T.int IntKind.i64 c2_1)]]) := by kernel_rfl
theorem e12 (O : Orc) (ea0 : Bool) (a0 : List (List T)) : stepO PROG ann O (Key.call 12) [(AV.t (T.lst 2 ea0 a0))] [] =
  (bif decide ((↑a0.length : Int) > (40 : Int)) then
    gdK none (O (Key.call 14) [AV.t (T.int IntKind.i64 (2 : Int)), AV.t (T.int IntKind.i64 (0 : Int))] [])
      fun l =>
      gdK none l.head? fun x =>
        gdK none (T.int? IntKind.i64 x) fun n =>
          gdK none l.tail.head? fun x =>
            gdK none (T.int? IntKind.i64 x) fun n_1 =>
              some
                [T.int IntKind.i64 (0 : Int), T.int IntKind.i64 (0 : Int), T.int IntKind.i64 (0 : Int),
                  T.int IntKind.i64 (0 : Int), T.int IntKind.i64 n, T.int IntKind.i64 n_1]
  else
    O
      K12n4
      [AV.t (T.lst 2 ea0 a0), AV.ref (Id.c 0) 0, AV.ref (Id.c 1) 0,
        AV.ref (Id.c 2) 0, AV.t (T.int IntKind.i64 (0 : Int))]
      [Blk.box [AV.t (T.int IntKind.i64 (0 : Int)), AV.t (T.int IntKind.i64 (0 : Int))],
        Blk.box [AV.t (T.int IntKind.i64 (0 : Int)), AV.t (T.int IntKind.i64 (0 : Int))],
        Blk.box [AV.t (T.int IntKind.i64 (0 : Int)), AV.t (T.int IntKind.i64 (0 : Int))]]) := by kernel_rfl
theorem e13 (O : Orc) (a0_0 : Int) (a0_1 : Int) : stepO PROG ann O (Key.call 13) [(AV.agg [(AV.t (T.int IntKind.i64 a0_0)), (AV.t (T.int IntKind.i64 a0_1))])] [] =
  (some
    [T.bool
        (bif
            bif bif decide (a0_1 > (0 : Int)) then decide (a0_1 ≤ (1000000 : Int)) else false then
              decide (a0_0 ≥ (0 : Int))
            else false then
          decide (a0_0 < a0_1)
        else false)]) := by kernel_rfl
theorem e14 (O : Orc) (a0 : Int) (a1 : Int) : stepO PROG ann O (Key.call 14) [(AV.t (T.int IntKind.i64 a0)), (AV.t (T.int IntKind.i64 a1))] [] =
  (some [T.int IntKind.i64 a0, T.int IntKind.i64 a1]) := by kernel_rfl
theorem e15 (O : Orc) (a0_0 : Int) (a0_1 : Int) (a1_0 : Int) (a1_1 : Int) : stepO PROG ann O (Key.call 15) [(AV.agg [(AV.t (T.int IntKind.i64 a0_0)), (AV.t (T.int IntKind.i64 a0_1))]), (AV.agg [(AV.t (T.int IntKind.i64 a1_0)), (AV.t (T.int IntKind.i64 a1_1))])] [] =
  (bif decide (a0_1 < a1_1) then
    gdK none (O (Key.call 22) [AV.t (T.int IntKind.i64 a1_1), AV.t (T.int IntKind.i64 a0_1)] []) fun l =>
      gdK none l.head? fun x =>
        gdK none (T.int? IntKind.i64 x) fun n =>
          gdK none (if n = (0 : Int) then none else some ()) fun x =>
            O
              K15n6
              [AV.ref (Id.c 0) 0, AV.ref (Id.c 1) 0, AV.ref (Id.c 2) 0,
                AV.t (T.int IntKind.i64 (IntKind.i64.wrap (IntKind.i64.wrap (a1_1.tdiv n) * a0_1))),
                AV.t (T.int IntKind.i64 a1_0), AV.t (T.int IntKind.i64 (0 : Int))]
              [Blk.box [AV.t (T.int IntKind.i64 a1_0), AV.t (T.int IntKind.i64 a1_1)],
                Blk.box [AV.t (T.int IntKind.i64 a0_0), AV.t (T.int IntKind.i64 a0_1)],
                Blk.box [AV.t (T.int IntKind.i64 (0 : Int)), AV.t (T.int IntKind.i64 (0 : Int))]]
  else
    gdK none (O (Key.call 22) [AV.t (T.int IntKind.i64 a0_1), AV.t (T.int IntKind.i64 a1_1)] []) fun l =>
      gdK none l.head? fun x =>
        gdK none (T.int? IntKind.i64 x) fun n =>
          gdK none (if n = (0 : Int) then none else some ()) fun x =>
            O
              K15n6
              [AV.ref (Id.c 0) 0, AV.ref (Id.c 1) 0, AV.ref (Id.c 2) 0,
                AV.t (T.int IntKind.i64 (IntKind.i64.wrap (IntKind.i64.wrap (a0_1.tdiv n) * a1_1))),
                AV.t (T.int IntKind.i64 a0_0), AV.t (T.int IntKind.i64 (0 : Int))]
              [Blk.box [AV.t (T.int IntKind.i64 a0_0), AV.t (T.int IntKind.i64 a0_1)],
                Blk.box [AV.t (T.int IntKind.i64 a1_0), AV.t (T.int IntKind.i64 a1_1)],
                Blk.box [AV.t (T.int IntKind.i64 (0 : Int)), AV.t (T.int IntKind.i64 (0 : Int))]]) := by kernel_rfl
theorem e24 (O : Orc) (a0 : Int) (a1 : Int) : stepO PROG ann O (Key.call 24) [(AV.t (T.int IntKind.i64 a0)), (AV.t (T.int IntKind.i64 a1))] [] =
  (O
    K24n2
    [AV.t (T.int IntKind.i64 a0), AV.t (T.int IntKind.i64 a1), AV.t (T.int IntKind.i64 (1 : Int)),
      AV.t (T.int IntKind.i64 (0 : Int))]
    []) := by kernel_rfl
theorem e25 (O : Orc) (a0 : Int) (a1 : Int) : stepO PROG ann O (Key.call 25) [(AV.t (T.int IntKind.i64 a0)), (AV.t (T.int IntKind.i64 a1))] [] =
  (gdK none (if a1 = (0 : Int) then none else some ()) fun x =>
    gdK none (if a1 = (0 : Int) then none else some ()) fun x =>
      some [T.int IntKind.i64 ((IntKind.i64.wrap (a0.tmod a1 + a1)).tmod a1)]) := by kernel_rfl
theorem e10n10 (O : Orc) (ev0 : Bool) (v0 : List (List T)) (ev37 : Bool) (v37 : List (List T)) (v38 : Int) (v39 : Int) (c0_0 : Int) (c0_1 : Int) (c1_0 : Int) (c1_1 : Int) (c2_0 : Int) (c2_1 : Int) : stepO PROG ann O K10n10 [(AV.t (T.lst 2 ev0 v0)), (AV.ref (Id.c 0) 0), (AV.ref (Id.c 1) 0), (AV.ref (Id.c 2) 0), (AV.t (T.lst 2 ev37 v37)), (AV.t (T.int IntKind.i64 v38)), (AV.t (T.int IntKind.i64 v39))] [(Blk.box [(AV.t (T.int IntKind.i64 c0_0)), (AV.t (T.int IntKind.i64 c0_1))]), (Blk.box [(AV.t (T.int IntKind.i64 c1_0)), (AV.t (T.int IntKind.i64 c1_1))]), (Blk.box [(AV.t (T.int IntKind.i64 c2_0)), (AV.t (T.int IntKind.i64 c2_1))])] =
  (bif decide (v39 < v38) then
    gdK none (if (0 : Int) ≤ v39 ∧ v39 < (↑v37.length : Int) then some () else none) fun x =>
      gdK none v37[v39.toNat]? fun l =>
        gdK none l.head? fun x =>
          gdK none l.tail.head? fun x_1 =>
            gdK none (T.int? IntKind.i64 x) fun n =>
              gdK none (T.int? IntKind.i64 x_1) fun n_1 =>
                gdK none (inB (0 : Int) v39 (↑v0.length : Int)) fun x =>
                  O
                    K10n13
                    [AV.t (T.lst 2 ev0 v0), AV.ref (Id.c 0) 0, AV.ref (Id.c 1) 0,
                      AV.ref (Id.c 2) 0, AV.t (T.int IntKind.i64 v39), AV.ref (Id.c 3) 0,
                      AV.t (T.lst 2 ev37 v37), AV.t (T.int IntKind.i64 v38), AV.t (T.int IntKind.i64 v39),
                      AV.t (T.lst 2 ev0 (sub (0 : Int) v39 v0)),
                      AV.t (T.int IntKind.i64 (↑(sub (0 : Int) v39 v0).length : Int)), AV.t (T.int IntKind.i64 (0 : Int))]
                    [Blk.box [AV.t (T.int IntKind.i64 c0_0), AV.t (T.int IntKind.i64 c0_1)],
                      Blk.box [AV.t (T.int IntKind.i64 c1_0), AV.t (T.int IntKind.i64 c1_1)],
                      Blk.box [AV.t (T.int IntKind.i64 c2_0), AV.t (T.int IntKind.i64 c2_1)],
                      Blk.box [AV.t (T.int IntKind.i64 n), AV.t (T.int IntKind.i64 n_1)]]
  else
    O
      K10n22
      [AV.ref (Id.c 0) 0, AV.ref (Id.c 1) 0, AV.ref (Id.c 2) 0,
        AV.ref (Id.c 3) 0, AV.t (T.lst 2 ev0 v0), AV.t (T.int IntKind.i64 (↑v0.length : Int)),
        AV.t (T.int IntKind.i64 (0 : Int))]
      [Blk.box [AV.t (T.int IntKind.i64 c0_0), AV.t (T.int IntKind.i64 c0_1)],
        Blk.box [AV.t (T.int IntKind.i64 c1_0), AV.t (T.int IntKind.i64 c1_1)],
        Blk.box [AV.t (T.int IntKind.i64 c2_0), AV.t (T.int IntKind.i64 c2_1)],
        Blk.box [AV.t (T.int IntKind.i64 (0 : Int)), AV.t (T.int IntKind.i64 (1 : Int))]]) := by kernel_rfl
theorem e12n4 (O : Orc) (ev0 : Bool) (v0 : List (List T)) (v5 : Int) (c0_0 : Int) (c0_1 : Int) (c1_0 : Int) (c1_1 : Int) (c2_0 : Int) (c2_1 : Int) : stepO PROG ann O K12n4 [(AV.t (T.lst 2 ev0 v0)), (AV.ref (Id.c 0) 0), (AV.ref (Id.c 1) 0), (AV.ref (Id.c 2) 0), (AV.t (T.int IntKind.i64 v5))] [(Blk.box [(AV.t (T.int IntKind.i64 c0_0)), (AV.t (T.int IntKind.i64 c0_1))]), (Blk.box [(AV.t (T.int IntKind.i64 c1_0)), (AV.t (T.int IntKind.i64 c1_1))]), (Blk.box [(AV.t (T.int IntKind.i64 c2_0)), (AV.t (T.int IntKind.i64 c2_1))])] =
  (bif decide (v5 < (↑v0.length : Int)) then
    gdK none (if (0 : Int) ≤ v5 ∧ v5 < (↑v0.length : Int) then some () else none) fun x =>
      gdK none v0[v5.toNat]? fun l =>
        gdK none l.head? fun x =>
          gdK none l.tail.head? fun x_1 =>
            gdK none (T.int? IntKind.i64 x) fun n =>
              gdK none (T.int? IntKind.i64 x_1) fun n_1 =>
                gdK none (O (Key.call 13) [AV.agg [AV.t (T.int IntKind.i64 n), AV.t (T.int IntKind.i64 n_1)]] [])
                  fun l =>
                  gdK none l.head? fun x =>
                    gdK none x.bool? fun b =>
                      bif !b then
                        gdK none
                          (O (Key.call 14) [AV.t (T.int IntKind.i64 (3 : Int)), AV.t (T.int IntKind.i64 v5)] [])
                          fun l =>
                          gdK none l.head? fun x =>
                            gdK none (T.int? IntKind.i64 x) fun n =>
                              gdK none l.tail.head? fun x =>
                                gdK none (T.int? IntKind.i64 x) fun n_2 =>
                                  some
                                    [T.int IntKind.i64 (0 : Int), T.int IntKind.i64 (0 : Int),
                                      T.int IntKind.i64 (0 : Int), T.int IntKind.i64 (0 : Int), T.int IntKind.i64 n,
                                      T.int IntKind.i64 n_2]
                      else
                        O
                          K12n4
                          [AV.t (T.lst 2 ev0 v0), AV.ref (Id.c 0) 0,
                            AV.ref (Id.c 1) 0, AV.ref (Id.c 2) 0,
                            AV.t (T.int IntKind.i64 (IntKind.i64.wrap (v5 + (1 : Int))))]
                          [Blk.box [AV.t (T.int IntKind.i64 c0_0), AV.t (T.int IntKind.i64 c0_1)],
                            Blk.box [AV.t (T.int IntKind.i64 c1_0), AV.t (T.int IntKind.i64 c1_1)],
                            Blk.box [AV.t (T.int IntKind.i64 c2_0), AV.t (T.int IntKind.i64 c2_1)]]
  else
    O
      K12n9
      [AV.t (T.lst 2 ev0 v0), AV.ref (Id.c 0) 0, AV.ref (Id.c 1) 0,
        AV.ref (Id.c 2) 0, AV.t (T.int IntKind.i64 (0 : Int))]
      [Blk.box [AV.t (T.int IntKind.i64 c0_0), AV.t (T.int IntKind.i64 c0_1)],
        Blk.box [AV.t (T.int IntKind.i64 c1_0), AV.t (T.int IntKind.i64 c1_1)],
        Blk.box [AV.t (T.int IntKind.i64 c2_0), AV.t (T.int IntKind.i64 c2_1)]]) := by kernel_rfl
theorem e22 (O : Orc) (a0 : Int) (a1 : Int) : stepO PROG ann O (Key.call 22) [(AV.t (T.int IntKind.i64 a0)), (AV.t (T.int IntKind.i64 a1))] [] =
  (O K22n1
    [AV.t (T.int IntKind.i64 a0), AV.t (T.int IntKind.i64 a1)] []) := by kernel_rfl
theorem e15n6 (O : Orc) (v6 : Int) (v7 : Int) (v8 : Int) (c0_0 : Int) (c0_1 : Int) (c1_0 : Int) (c1_1 : Int) (c2_0 : Int) (c2_1 : Int) : stepO PROG ann O K15n6 [(AV.ref (Id.c 0) 0), (AV.ref (Id.c 1) 0), (AV.ref (Id.c 2) 0), (AV.t (T.int IntKind.i64 v6)), (AV.t (T.int IntKind.i64 v7)), (AV.t (T.int IntKind.i64 v8))] [(Blk.box [(AV.t (T.int IntKind.i64 c0_0)), (AV.t (T.int IntKind.i64 c0_1))]), (Blk.box [(AV.t (T.int IntKind.i64 c1_0)), (AV.t (T.int IntKind.i64 c1_1))]), (Blk.box [(AV.t (T.int IntKind.i64 c2_0)), (AV.t (T.int IntKind.i64 c2_1))])] =
  (bif decide (v8 < c1_1) then
    gdK none (if c1_1 = (0 : Int) then none else some ()) fun x =>
      bif v7.tmod c1_1 == c1_0 then some [T.int IntKind.i64 v7, T.int IntKind.i64 v6, T.bool true]
      else
        O
          K15n6
          [AV.ref (Id.c 0) 0, AV.ref (Id.c 1) 0, AV.ref (Id.c 2) 0,
            AV.t (T.int IntKind.i64 v6), AV.t (T.int IntKind.i64 (IntKind.i64.wrap (v7 + c0_1))),
            AV.t (T.int IntKind.i64 (IntKind.i64.wrap (v8 + (1 : Int))))]
          [Blk.box [AV.t (T.int IntKind.i64 c0_0), AV.t (T.int IntKind.i64 c0_1)],
            Blk.box [AV.t (T.int IntKind.i64 c1_0), AV.t (T.int IntKind.i64 c1_1)],
            Blk.box [AV.t (T.int IntKind.i64 c2_0), AV.t (T.int IntKind.i64 c2_1)]]
  else some [T.int IntKind.i64 (0 : Int), T.int IntKind.i64 (0 : Int), T.bool false]) := by kernel_rfl
theorem e24n2 (O : Orc) (v0 : Int) (v1 : Int) (v6 : Int) (v7 : Int) : stepO PROG ann O K24n2 [(AV.t (T.int IntKind.i64 v0)), (AV.t (T.int IntKind.i64 v1)), (AV.t (T.int IntKind.i64 v6)), (AV.t (T.int IntKind.i64 v7))] [] =
  (bif !v1 == (0 : Int) then
    gdK none (if v1 = (0 : Int) then none else some ()) fun x =>
      O
        K24n2
        [AV.t (T.int IntKind.i64 v1),
          AV.t (T.int IntKind.i64 (IntKind.i64.wrap (v0 - IntKind.i64.wrap (IntKind.i64.wrap (v0.tdiv v1) * v1)))),
          AV.t (T.int IntKind.i64 v7),
          AV.t (T.int IntKind.i64 (IntKind.i64.wrap (v6 - IntKind.i64.wrap (IntKind.i64.wrap (v0.tdiv v1) * v7))))]
        []
  else some [T.int IntKind.i64 v0, T.int IntKind.i64 v6]) := by kernel_rfl
theorem e10n13 (O : Orc) (ev0 : Bool) (v0 : List (List T)) (v7 : Int) (ev37 : Bool) (v37 : List (List T)) (v38 : Int) (v39 : Int) (ev46 : Bool) (v46 : List (List T)) (v47 : Int) (v48 : Int) (c0_0 : Int) (c0_1 : Int) (c1_0 : Int) (c1_1 : Int) (c2_0 : Int) (c2_1 : Int) (c3_0 : Int) (c3_1 : Int) : stepO PROG ann O K10n13 [(AV.t (T.lst 2 ev0 v0)), (AV.ref (Id.c 0) 0), (AV.ref (Id.c 1) 0), (AV.ref (Id.c 2) 0), (AV.t (T.int IntKind.i64 v7)), (AV.ref (Id.c 3) 0), (AV.t (T.lst 2 ev37 v37)), (AV.t (T.int IntKind.i64 v38)), (AV.t (T.int IntKind.i64 v39)), (AV.t (T.lst 2 ev46 v46)), (AV.t (T.int IntKind.i64 v47)), (AV.t (T.int IntKind.i64 v48))] [(Blk.box [(AV.t (T.int IntKind.i64 c0_0)), (AV.t (T.int IntKind.i64 c0_1))]), (Blk.box [(AV.t (T.int IntKind.i64 c1_0)), (AV.t (T.int IntKind.i64 c1_1))]), (Blk.box [(AV.t (T.int IntKind.i64 c2_0)), (AV.t (T.int IntKind.i64 c2_1))]), (Blk.box [(AV.t (T.int IntKind.i64 c3_0)), (AV.t (T.int IntKind.i64 c3_1))])] =
  (bif decide (v48 < v47) then
    gdK none (if (0 : Int) ≤ v48 ∧ v48 < (↑v46.length : Int) then some () else none) fun x =>
      gdK none v46[v48.toNat]? fun l =>
        gdK none l.head? fun x =>
          gdK none l.tail.head? fun x_1 =>
            gdK none (T.int? IntKind.i64 x) fun n =>
              gdK none (T.int? IntKind.i64 x_1) fun n_1 =>
                gdK none
                  (O (Key.call 21)
                    [AV.agg [AV.t (T.int IntKind.i64 n), AV.t (T.int IntKind.i64 n_1)],
                      AV.agg [AV.t (T.int IntKind.i64 c3_0), AV.t (T.int IntKind.i64 c3_1)]]
                    [])
                  fun l =>
                  gdK none l.head? fun x =>
                    gdK none (T.int? IntKind.i64 x) fun n =>
                      gdK none l.tail.head? fun x =>
                        gdK none (T.int? IntKind.i64 x) fun n =>
                          gdK none (List.drop 2 l).head? fun x =>
                            gdK none x.bool? fun b =>
                              bif !b then
                                some
                                  [T.int IntKind.i64 (0 : Int), T.int IntKind.i64 (0 : Int), T.int IntKind.i64 v48,
                                    T.int IntKind.i64 v7, T.int IntKind.i64 (6 : Int), T.int IntKind.i64 (0 : Int)]
                              else
                                O
                                  K10n13
                                  [AV.t (T.lst 2 ev0 v0), AV.ref (Id.c 0) 0,
                                    AV.ref (Id.c 1) 0, AV.ref (Id.c 2) 0,
                                    AV.t (T.int IntKind.i64 v7), AV.ref (Id.c 3) 0,
                                    AV.t (T.lst 2 ev37 v37), AV.t (T.int IntKind.i64 v38),
                                    AV.t (T.int IntKind.i64 v39), AV.t (T.lst 2 ev46 v46),
                                    AV.t (T.int IntKind.i64 v47),
                                    AV.t (T.int IntKind.i64 (IntKind.i64.wrap (v48 + (1 : Int))))]
                                  [Blk.box [AV.t (T.int IntKind.i64 c0_0), AV.t (T.int IntKind.i64 c0_1)],
                                    Blk.box [AV.t (T.int IntKind.i64 c1_0), AV.t (T.int IntKind.i64 c1_1)],
                                    Blk.box [AV.t (T.int IntKind.i64 c2_0), AV.t (T.int IntKind.i64 c2_1)],
                                    Blk.box [AV.t (T.int IntKind.i64 c3_0), AV.t (T.int IntKind.i64 c3_1)]]
  else
    O
      K10n10
      [AV.t (T.lst 2 ev0 v0), AV.ref (Id.c 0) 0, AV.ref (Id.c 1) 0,
        AV.ref (Id.c 2) 0, AV.t (T.lst 2 ev37 v37), AV.t (T.int IntKind.i64 v38),
        AV.t (T.int IntKind.i64 (IntKind.i64.wrap (v39 + (1 : Int))))]
      [Blk.box [AV.t (T.int IntKind.i64 c0_0), AV.t (T.int IntKind.i64 c0_1)],
        Blk.box [AV.t (T.int IntKind.i64 c1_0), AV.t (T.int IntKind.i64 c1_1)],
        Blk.box [AV.t (T.int IntKind.i64 c2_0), AV.t (T.int IntKind.i64 c2_1)]]) := by kernel_rfl
theorem e10n22 (O : Orc) (ev69 : Bool) (v69 : List (List T)) (v70 : Int) (v71 : Int) (c0_0 : Int) (c0_1 : Int) (c1_0 : Int) (c1_1 : Int) (c2_0 : Int) (c2_1 : Int) (c3_0 : Int) (c3_1 : Int) : stepO PROG ann O K10n22 [(AV.ref (Id.c 0) 0), (AV.ref (Id.c 1) 0), (AV.ref (Id.c 2) 0), (AV.ref (Id.c 3) 0), (AV.t (T.lst 2 ev69 v69)), (AV.t (T.int IntKind.i64 v70)), (AV.t (T.int IntKind.i64 v71))] [(Blk.box [(AV.t (T.int IntKind.i64 c0_0)), (AV.t (T.int IntKind.i64 c0_1))]), (Blk.box [(AV.t (T.int IntKind.i64 c1_0)), (AV.t (T.int IntKind.i64 c1_1))]), (Blk.box [(AV.t (T.int IntKind.i64 c2_0)), (AV.t (T.int IntKind.i64 c2_1))]), (Blk.box [(AV.t (T.int IntKind.i64 c3_0)), (AV.t (T.int IntKind.i64 c3_1))])] =
  (bif decide (v71 < v70) then
    gdK none (if (0 : Int) ≤ v71 ∧ v71 < (↑v69.length : Int) then some () else none) fun x =>
      gdK none v69[v71.toNat]? fun l =>
        gdK none l.head? fun x =>
          gdK none l.tail.head? fun x_1 =>
            gdK none (T.int? IntKind.i64 x) fun n =>
              gdK none (T.int? IntKind.i64 x_1) fun n_1 =>
                gdK none
                  (O (Key.call 21)
                    [AV.agg [AV.t (T.int IntKind.i64 c3_0), AV.t (T.int IntKind.i64 c3_1)],
                      AV.agg [AV.t (T.int IntKind.i64 n), AV.t (T.int IntKind.i64 n_1)]]
                    [])
                  fun l =>
                  gdK none l.head? fun x =>
                    gdK none (T.int? IntKind.i64 x) fun n =>
                      gdK none l.tail.head? fun x =>
                        gdK none (T.int? IntKind.i64 x) fun n_2 =>
                          gdK none (List.drop 2 l).head? fun x =>
                            gdK none x.bool? fun b =>
                              bif decide (n_2 > (1000000 : Int)) then
                                some
                                  [T.int IntKind.i64 (0 : Int), T.int IntKind.i64 (0 : Int), T.int IntKind.i64 (0 : Int),
                                    T.int IntKind.i64 (0 : Int), T.int IntKind.i64 (10 : Int),
                                    T.int IntKind.i64 (0 : Int)]
                              else
                                O
                                  K10n22
                                  [AV.ref (Id.c 0) 0, AV.ref (Id.c 1) 0,
                                    AV.ref (Id.c 2) 0, AV.ref (Id.c 3) 0,
                                    AV.t (T.lst 2 ev69 v69), AV.t (T.int IntKind.i64 v70),
                                    AV.t (T.int IntKind.i64 (IntKind.i64.wrap (v71 + (1 : Int))))]
                                  [Blk.box [AV.t (T.int IntKind.i64 c0_0), AV.t (T.int IntKind.i64 c0_1)],
                                    Blk.box [AV.t (T.int IntKind.i64 c1_0), AV.t (T.int IntKind.i64 c1_1)],
                                    Blk.box [AV.t (T.int IntKind.i64 c2_0), AV.t (T.int IntKind.i64 c2_1)],
                                    Blk.box [AV.t (T.int IntKind.i64 n), AV.t (T.int IntKind.i64 n_2)]]
  else
    some
      [T.int IntKind.i64 c3_0, T.int IntKind.i64 c3_1, T.int IntKind.i64 (0 : Int), T.int IntKind.i64 (0 : Int),
        T.int IntKind.i64 (0 : Int), T.int IntKind.i64 (0 : Int)]) := by kernel_rfl
theorem e12n9 (O : Orc) (ev0 : Bool) (v0 : List (List T)) (v6 : Int) (c0_0 : Int) (c0_1 : Int) (c1_0 : Int) (c1_1 : Int) (c2_0 : Int) (c2_1 : Int) : stepO PROG ann O K12n9 [(AV.t (T.lst 2 ev0 v0)), (AV.ref (Id.c 0) 0), (AV.ref (Id.c 1) 0), (AV.ref (Id.c 2) 0), (AV.t (T.int IntKind.i64 v6))] [(Blk.box [(AV.t (T.int IntKind.i64 c0_0)), (AV.t (T.int IntKind.i64 c0_1))]), (Blk.box [(AV.t (T.int IntKind.i64 c1_0)), (AV.t (T.int IntKind.i64 c1_1))]), (Blk.box [(AV.t (T.int IntKind.i64 c2_0)), (AV.t (T.int IntKind.i64 c2_1))])] =
  (bif decide (v6 < (↑v0.length : Int)) then
    O
      K12n12
      [AV.t (T.lst 2 ev0 v0), AV.ref (Id.c 0) 0, AV.ref (Id.c 1) 0,
        AV.ref (Id.c 2) 0, AV.t (T.int IntKind.i64 v6), AV.t (T.int IntKind.i64 (0 : Int))]
      [Blk.box [AV.t (T.int IntKind.i64 c0_0), AV.t (T.int IntKind.i64 c0_1)],
        Blk.box [AV.t (T.int IntKind.i64 c1_0), AV.t (T.int IntKind.i64 c1_1)],
        Blk.box [AV.t (T.int IntKind.i64 c2_0), AV.t (T.int IntKind.i64 c2_1)]]
  else
    O
      K12n18
      [AV.t (T.lst 2 ev0 v0), AV.ref (Id.c 0) 0, AV.ref (Id.c 1) 0,
        AV.ref (Id.c 2) 0, AV.ref (Id.c 3) 0, AV.t (T.int IntKind.i64 (0 : Int))]
      [Blk.box [AV.t (T.int IntKind.i64 c0_0), AV.t (T.int IntKind.i64 c0_1)],
        Blk.box [AV.t (T.int IntKind.i64 c1_0), AV.t (T.int IntKind.i64 c1_1)],
        Blk.box [AV.t (T.int IntKind.i64 c2_0), AV.t (T.int IntKind.i64 c2_1)],
        Blk.box [AV.t (T.int IntKind.i64 (0 : Int)), AV.t (T.int IntKind.i64 (1 : Int))]]) := by kernel_rfl
theorem e22n1 (O : Orc) (v0 : Int) (v1 : Int) : stepO PROG ann O K22n1 [(AV.t (T.int IntKind.i64 v0)), (AV.t (T.int IntKind.i64 v1))] [] =
  (bif !v1 == (0 : Int) then
    gdK none (if v1 = (0 : Int) then none else some ()) fun x =>
      O K22n1
        [AV.t (T.int IntKind.i64 v1), AV.t (T.int IntKind.i64 (v0.tmod v1))] []
  else some [T.int IntKind.i64 v0]) := by kernel_rfl
theorem e12n12 (O : Orc) (ev0 : Bool) (v0 : List (List T)) (v6 : Int) (v7 : Int) (c0_0 : Int) (c0_1 : Int) (c1_0 : Int) (c1_1 : Int) (c2_0 : Int) (c2_1 : Int) : stepO PROG ann O K12n12 [(AV.t (T.lst 2 ev0 v0)), (AV.ref (Id.c 0) 0), (AV.ref (Id.c 1) 0), (AV.ref (Id.c 2) 0), (AV.t (T.int IntKind.i64 v6)), (AV.t (T.int IntKind.i64 v7))] [(Blk.box [(AV.t (T.int IntKind.i64 c0_0)), (AV.t (T.int IntKind.i64 c0_1))]), (Blk.box [(AV.t (T.int IntKind.i64 c1_0)), (AV.t (T.int IntKind.i64 c1_1))]), (Blk.box [(AV.t (T.int IntKind.i64 c2_0)), (AV.t (T.int IntKind.i64 c2_1))])] =
  (bif decide (v7 < v6) then
    gdK none (if (0 : Int) ≤ v6 ∧ v6 < (↑v0.length : Int) then some () else none) fun x =>
      gdK none v0[v6.toNat]? fun l =>
        gdK none l.head? fun x =>
          gdK none (T.int? IntKind.i64 x) fun n =>
            gdK none (if (0 : Int) ≤ v7 ∧ v7 < (↑v0.length : Int) then some () else none) fun x =>
              gdK none v0[v7.toNat]? fun l =>
                gdK none l.head? fun x =>
                  gdK none (T.int? IntKind.i64 x) fun n_1 =>
                    gdK none (if (0 : Int) ≤ v6 ∧ v6 < (↑v0.length : Int) then some () else none) fun x =>
                      gdK none v0[v6.toNat]? fun l =>
                        gdK none (List.drop 1 l).head? fun x =>
                          gdK none (T.int? IntKind.i64 x) fun n_2 =>
                            gdK none (if (0 : Int) ≤ v7 ∧ v7 < (↑v0.length : Int) then some () else none) fun x =>
                              gdK none v0[v7.toNat]? fun l =>
                                gdK none (List.drop 1 l).head? fun x =>
                                  gdK none (T.int? IntKind.i64 x) fun n_3 =>
                                    gdK none
                                      (O (Key.call 22)
                                        [AV.t (T.int IntKind.i64 n_2), AV.t (T.int IntKind.i64 n_3)] [])
                                      fun l =>
                                      gdK none l.head? fun x =>
                                        gdK none (T.int? IntKind.i64 x) fun n_4 =>
                                          gdK none (if n_4 = (0 : Int) then none else some ()) fun x =>
                                            bif !(IntKind.i64.wrap (n - n_1)).tmod n_4 == (0 : Int) then
                                              gdK none
                                                (O (Key.call 14)
                                                  [AV.t (T.int IntKind.i64 (6 : Int)), AV.t (T.int IntKind.i64 (0 : Int))]
                                                  [])
                                                fun l =>
                                                gdK none l.head? fun x =>
                                                  gdK none (T.int? IntKind.i64 x) fun n =>
                                                    gdK none l.tail.head? fun x =>
                                                      gdK none (T.int? IntKind.i64 x) fun n_5 =>
                                                        some
                                                          [T.int IntKind.i64 (0 : Int), T.int IntKind.i64 (0 : Int),
                                                            T.int IntKind.i64 v7, T.int IntKind.i64 v6,
                                                            T.int IntKind.i64 n, T.int IntKind.i64 n_5]
                                            else
                                              O
                                                K12n12
                                                [AV.t (T.lst 2 ev0 v0), AV.ref (Id.c 0) 0,
                                                  AV.ref (Id.c 1) 0, AV.ref (Id.c 2) 0,
                                                  AV.t (T.int IntKind.i64 v6),
                                                  AV.t (T.int IntKind.i64 (IntKind.i64.wrap (v7 + (1 : Int))))]
                                                [Blk.box [AV.t (T.int IntKind.i64 c0_0), AV.t (T.int IntKind.i64 c0_1)],
                                                  Blk.box [AV.t (T.int IntKind.i64 c1_0), AV.t (T.int IntKind.i64 c1_1)],
                                                  Blk.box [AV.t (T.int IntKind.i64 c2_0), AV.t (T.int IntKind.i64 c2_1)]]
  else
    O
      K12n9
      [AV.t (T.lst 2 ev0 v0), AV.ref (Id.c 0) 0, AV.ref (Id.c 1) 0,
        AV.ref (Id.c 2) 0, AV.t (T.int IntKind.i64 (IntKind.i64.wrap (v6 + (1 : Int))))]
      [Blk.box [AV.t (T.int IntKind.i64 c0_0), AV.t (T.int IntKind.i64 c0_1)],
        Blk.box [AV.t (T.int IntKind.i64 c1_0), AV.t (T.int IntKind.i64 c1_1)],
        Blk.box [AV.t (T.int IntKind.i64 c2_0), AV.t (T.int IntKind.i64 c2_1)]]) := by kernel_rfl
theorem e12n18 (O : Orc) (ev0 : Bool) (v0 : List (List T)) (v9 : Int) (c0_0 : Int) (c0_1 : Int) (c1_0 : Int) (c1_1 : Int) (c2_0 : Int) (c2_1 : Int) (c3_0 : Int) (c3_1 : Int) : stepO PROG ann O K12n18 [(AV.t (T.lst 2 ev0 v0)), (AV.ref (Id.c 0) 0), (AV.ref (Id.c 1) 0), (AV.ref (Id.c 2) 0), (AV.ref (Id.c 3) 0), (AV.t (T.int IntKind.i64 v9))] [(Blk.box [(AV.t (T.int IntKind.i64 c0_0)), (AV.t (T.int IntKind.i64 c0_1))]), (Blk.box [(AV.t (T.int IntKind.i64 c1_0)), (AV.t (T.int IntKind.i64 c1_1))]), (Blk.box [(AV.t (T.int IntKind.i64 c2_0)), (AV.t (T.int IntKind.i64 c2_1))]), (Blk.box [(AV.t (T.int IntKind.i64 c3_0)), (AV.t (T.int IntKind.i64 c3_1))])] =
  (bif decide (v9 < (↑v0.length : Int)) then
    gdK none (if (0 : Int) ≤ v9 ∧ v9 < (↑v0.length : Int) then some () else none) fun x =>
      gdK none v0[v9.toNat]? fun l =>
        gdK none (List.drop 1 l).head? fun x =>
          gdK none (T.int? IntKind.i64 x) fun n =>
            gdK none (O (Key.call 22) [AV.t (T.int IntKind.i64 c3_1), AV.t (T.int IntKind.i64 n)] []) fun l =>
              gdK none l.head? fun x =>
                gdK none (T.int? IntKind.i64 x) fun n =>
                  gdK none (if n = (0 : Int) then none else some ()) fun x =>
                    gdK none (if (0 : Int) ≤ v9 ∧ v9 < (↑v0.length : Int) then some () else none) fun x =>
                      gdK none v0[v9.toNat]? fun l =>
                        gdK none (List.drop 1 l).head? fun x =>
                          gdK none (T.int? IntKind.i64 x) fun n_1 =>
                            bif decide (IntKind.i64.wrap (IntKind.i64.wrap (c3_1.tdiv n) * n_1) > (1000000 : Int)) then
                              gdK none
                                (O (Key.call 14)
                                  [AV.t (T.int IntKind.i64 (10 : Int)), AV.t (T.int IntKind.i64 (0 : Int))] [])
                                fun l =>
                                gdK none l.head? fun x =>
                                  gdK none (T.int? IntKind.i64 x) fun n =>
                                    gdK none l.tail.head? fun x =>
                                      gdK none (T.int? IntKind.i64 x) fun n_2 =>
                                        some
                                          [T.int IntKind.i64 (0 : Int), T.int IntKind.i64 (0 : Int),
                                            T.int IntKind.i64 (0 : Int), T.int IntKind.i64 (0 : Int), T.int IntKind.i64 n,
                                            T.int IntKind.i64 n_2]
                            else
                              gdK none (if (0 : Int) ≤ v9 ∧ v9 < (↑v0.length : Int) then some () else none) fun x =>
                                gdK none v0[v9.toNat]? fun l =>
                                  gdK none l.head? fun x =>
                                    gdK none l.tail.head? fun x_1 =>
                                      gdK none (T.int? IntKind.i64 x) fun n =>
                                        gdK none (T.int? IntKind.i64 x_1) fun n_2 =>
                                          gdK none
                                            (O (Key.call 15)
                                              [AV.agg [AV.t (T.int IntKind.i64 c3_0), AV.t (T.int IntKind.i64 c3_1)],
                                                AV.agg [AV.t (T.int IntKind.i64 n), AV.t (T.int IntKind.i64 n_2)]]
                                              [])
                                            fun l =>
                                            gdK none l.head? fun x =>
                                              gdK none (T.int? IntKind.i64 x) fun n =>
                                                gdK none l.tail.head? fun x =>
                                                  gdK none (T.int? IntKind.i64 x) fun n_3 =>
                                                    gdK none (List.drop 2 l).head? fun x =>
                                                      gdK none x.bool? fun b =>
                                                        O
                                                          K12n18
                                                          [AV.t (T.lst 2 ev0 v0),
                                                            AV.ref (Id.c 0) 0,
                                                            AV.ref (Id.c 1) 0,
                                                            AV.ref (Id.c 2) 0,
                                                            AV.ref (Id.c 3) 0,
                                                            AV.t (T.int IntKind.i64 (IntKind.i64.wrap (v9 + (1 : Int))))]
                                                          [Blk.box
                                                              [AV.t (T.int IntKind.i64 c0_0),
                                                                AV.t (T.int IntKind.i64 c0_1)],
                                                            Blk.box
                                                              [AV.t (T.int IntKind.i64 c1_0),
                                                                AV.t (T.int IntKind.i64 c1_1)],
                                                            Blk.box
                                                              [AV.t (T.int IntKind.i64 c2_0),
                                                                AV.t (T.int IntKind.i64 c2_1)],
                                                            Blk.box
                                                              [AV.t (T.int IntKind.i64 n), AV.t (T.int IntKind.i64 n_3)]]
  else
    some
      [T.int IntKind.i64 c3_0, T.int IntKind.i64 c3_1, T.int IntKind.i64 (0 : Int), T.int IntKind.i64 (0 : Int),
        T.int IntKind.i64 (0 : Int), T.int IntKind.i64 (0 : Int)]) := by kernel_rfl
theorem e4 (O : Orc) (a0 a1 a2 : Int) : stepO PROG ann O (Key.call 4) [AV.t (T.int IntKind.i64 a0), AV.t (T.int IntKind.i64 a1), AV.t (T.int IntKind.i64 a2)] [] =
  (gdK none
    (O (Key.call 16) [AV.t (T.int IntKind.i64 a0), AV.t (T.int IntKind.i64 a1), AV.t (T.int IntKind.i64 a2)] [])
    fun l =>
    gdK none l.head? fun x =>
      gdK none (T.int? IntKind.i64 x) fun n =>
        gdK none l.tail.head? fun x =>
          gdK none (T.int? IntKind.i64 x) fun n_1 =>
            gdK none (List.drop 2 l).head? fun x =>
              gdK none (T.int? IntKind.i64 x) fun n_2 =>
                gdK none (List.drop 2 l).tail.head? fun x =>
                  gdK none (T.int? IntKind.i64 x) fun n_3 =>
                    gdK none (O (Key.call 11) [] []) fun l =>
                      gdK none l.head? fun x =>
                        gdK none x.bool? fun b =>
                          bif !b then some [T.bool false]
                          else
                            bif bif decide (a2 < (1 : Int)) then true else decide (a2 > (1000000 : Int)) then
                              gdK none
                                (O (Key.call 14)
                                  [AV.t (T.int IntKind.i64 (3 : Int)), AV.t (T.int IntKind.i64 (2 : Int))] [])
                                fun l =>
                                gdK none l.head? fun x =>
                                  gdK none (T.int? IntKind.i64 x) fun n_4 =>
                                    gdK none l.tail.head? fun x =>
                                      gdK none (T.int? IntKind.i64 x) fun n_5 =>
                                        some
                                          [T.bool
                                              (bif n_2 == n_4 && (n_3 == n_5 && true) then
                                                n == (0 : Int) && (n_1 == (0 : Int) && true)
                                              else false)]
                            else
                              gdK none (O (Key.call 17) [AV.t (T.int IntKind.i64 a0)] []) fun l =>
                                gdK none l.head? fun x =>
                                  gdK none x.bool? fun b =>
                                    bif !b then
                                      gdK none
                                        (O (Key.call 14)
                                          [AV.t (T.int IntKind.i64 (3 : Int)), AV.t (T.int IntKind.i64 (0 : Int))] [])
                                        fun l =>
                                        gdK none l.head? fun x =>
                                          gdK none (T.int? IntKind.i64 x) fun n_4 =>
                                            gdK none l.tail.head? fun x =>
                                              gdK none (T.int? IntKind.i64 x) fun n_5 =>
                                                some
                                                  [T.bool
                                                      (bif n_2 == n_4 && (n_3 == n_5 && true) then
                                                        n == (0 : Int) && (n_1 == (0 : Int) && true)
                                                      else false)]
                                    else
                                      gdK none (O (Key.call 17) [AV.t (T.int IntKind.i64 a1)] []) fun l =>
                                        gdK none l.head? fun x =>
                                          gdK none x.bool? fun b =>
                                            bif !b then
                                              gdK none
                                                (O (Key.call 14)
                                                  [AV.t (T.int IntKind.i64 (3 : Int)), AV.t (T.int IntKind.i64 (1 : Int))]
                                                  [])
                                                fun l =>
                                                gdK none l.head? fun x =>
                                                  gdK none (T.int? IntKind.i64 x) fun n_4 =>
                                                    gdK none l.tail.head? fun x =>
                                                      gdK none (T.int? IntKind.i64 x) fun n_5 =>
                                                        some
                                                          [T.bool
                                                              (bif n_2 == n_4 && (n_3 == n_5 && true) then
                                                                n == (0 : Int) && (n_1 == (0 : Int) && true)
                                                              else false)]
                                            else
                                              bif decide (a2 > (3000 : Int)) then
                                                gdK none
                                                  (askO (some (bif !n_2 == (6 : Int) then n_2 == (0 : Int) else false))
                                                    (O (Key.call 13)
                                                      [AV.agg [AV.t (T.int IntKind.i64 n), AV.t (T.int IntKind.i64 n_1)]]
                                                      []))
                                                  fun l =>
                                                  gdK (some (bif !n_2 == (6 : Int) then n_2 == (0 : Int) else false))
                                                    l.head? fun x =>
                                                    gdK (some (bif !n_2 == (6 : Int) then n_2 == (0 : Int) else false))
                                                      x.bool? fun b =>
                                                      gdK
                                                        (some
                                                          (bif !n_2 == (6 : Int) then
                                                            bif n_2 == (0 : Int) then b else false
                                                          else false))
                                                        (if a2 = (0 : Int) then none else some ()) fun x =>
                                                        some
                                                          [T.bool
                                                              (bif n_2 == (6 : Int) then true
                                                              else
                                                                bif bif n_2 == (0 : Int) then b else false then
                                                                  (IntKind.i64.wrap (IntKind.i64.wrap (a0 * n) - a1)).tmod
                                                                      a2 ==
                                                                    (0 : Int)
                                                                else false)]
                                              else
                                                gdK none
                                                  (O (Key.call 18)
                                                    [AV.t (T.int IntKind.i64 a0), AV.t (T.int IntKind.i64 a1),
                                                      AV.t (T.int IntKind.i64 a2)]
                                                    [])
                                                  fun l =>
                                                  gdK none l.head? fun x =>
                                                    gdK none (T.int? IntKind.i64 x) fun n_4 =>
                                                      gdK none l.tail.head? fun x =>
                                                        gdK none (T.int? IntKind.i64 x) fun n_5 =>
                                                          gdK none (List.drop 2 l).head? fun x =>
                                                            gdK none x.bool? fun b =>
                                                              bif !b then
                                                                gdK none
                                                                  (O (Key.call 14)
                                                                    [AV.t (T.int IntKind.i64 (6 : Int)),
                                                                      AV.t (T.int IntKind.i64 (0 : Int))]
                                                                    [])
                                                                  fun l =>
                                                                  gdK none l.head? fun x =>
                                                                    gdK none (T.int? IntKind.i64 x) fun n_6 =>
                                                                      gdK none l.tail.head? fun x =>
                                                                        gdK none (T.int? IntKind.i64 x) fun n_7 =>
                                                                          some
                                                                            [T.bool
                                                                                (bif
                                                                                    n_2 == n_6 &&
                                                                                      (n_3 == n_7 && true) then
                                                                                  n == (0 : Int) &&
                                                                                    (n_1 == (0 : Int) && true)
                                                                                else false)]
                                                              else
                                                                some
                                                                  [T.bool
                                                                      (bif n_2 == (0 : Int) then
                                                                        n == n_4 && (n_1 == n_5 && true)
                                                                      else false)]) := by kernel_rfl
theorem e17 (O : Orc) (a0 : Int) : stepO PROG ann O (Key.call 17) [(AV.t (T.int IntKind.i64 a0))] [] =
  (some [T.bool (bif decide (a0 ≤ (1000000 : Int)) then decide (a0 ≥ (-1000000 : Int)) else false)]) := by kernel_rfl
theorem e18 (O : Orc) (a0 : Int) (a1 : Int) (a2 : Int) : stepO PROG ann O (Key.call 18) [(AV.t (T.int IntKind.i64 a0)), (AV.t (T.int IntKind.i64 a1)), (AV.t (T.int IntKind.i64 a2))] [] =
  (gdK none
    (O (Key.call 22)
      [AV.t (T.int IntKind.i64 (mm true a0 (IntKind.i64.wrap ((0 : Int) - a0)))), AV.t (T.int IntKind.i64 a2)] [])
    fun l =>
    gdK none l.head? fun x =>
      gdK none (T.int? IntKind.i64 x) fun n =>
        gdK none (if n = (0 : Int) then none else some ()) fun x =>
          O
            K18n3
            [AV.t (T.int IntKind.i64 a0), AV.t (T.int IntKind.i64 a1), AV.t (T.int IntKind.i64 a2),
              AV.ref (Id.c 0) 0, AV.t (T.int IntKind.i64 (IntKind.i64.wrap (a2.tdiv n))),
              AV.t (T.int IntKind.i64 (0 : Int))]
            [Blk.box [AV.t (T.int IntKind.i64 (0 : Int)), AV.t (T.int IntKind.i64 (0 : Int))]]) := by kernel_rfl
theorem e18n3 (O : Orc) (v0 : Int) (v1 : Int) (v2 : Int) (v8 : Int) (v9 : Int) (c0_0 : Int) (c0_1 : Int) : stepO PROG ann O K18n3 [(AV.t (T.int IntKind.i64 v0)), (AV.t (T.int IntKind.i64 v1)), (AV.t (T.int IntKind.i64 v2)), (AV.ref (Id.c 0) 0), (AV.t (T.int IntKind.i64 v8)), (AV.t (T.int IntKind.i64 v9))] [(Blk.box [(AV.t (T.int IntKind.i64 c0_0)), (AV.t (T.int IntKind.i64 c0_1))])] =
  (bif decide (v9 < v8) then
    gdK none (if v2 = (0 : Int) then none else some ()) fun x =>
      bif (IntKind.i64.wrap (IntKind.i64.wrap (v0 * v9) - v1)).tmod v2 == (0 : Int) then
        some [T.int IntKind.i64 v9, T.int IntKind.i64 v8, T.bool true]
      else
        O
          K18n3
          [AV.t (T.int IntKind.i64 v0), AV.t (T.int IntKind.i64 v1), AV.t (T.int IntKind.i64 v2),
            AV.ref (Id.c 0) 0, AV.t (T.int IntKind.i64 v8),
            AV.t (T.int IntKind.i64 (IntKind.i64.wrap (v9 + (1 : Int))))]
          [Blk.box [AV.t (T.int IntKind.i64 c0_0), AV.t (T.int IntKind.i64 c0_1)]]
  else some [T.int IntKind.i64 (0 : Int), T.int IntKind.i64 (0 : Int), T.bool false]) := by kernel_rfl
theorem e5 (O : Orc) (a0_0 a0_1 a1_0 a1_1 a2 : Int) : stepO PROG ann O (Key.call 5) [AV.agg [AV.t (T.int IntKind.i64 a0_0), AV.t (T.int IntKind.i64 a0_1)], AV.agg [AV.t (T.int IntKind.i64 a1_0), AV.t (T.int IntKind.i64 a1_1)], AV.t (T.int IntKind.i64 a2)] [] =
  (gdK none (O (Key.call 11) [] []) fun l =>
    gdK none l.head? fun x =>
      gdK none x.bool? fun b =>
        bif !b then some [T.bool false]
        else
          gdK none
            (O (Key.call 9)
              [AV.agg [AV.t (T.int IntKind.i64 a0_0), AV.t (T.int IntKind.i64 a0_1)],
                AV.agg [AV.t (T.int IntKind.i64 a1_0), AV.t (T.int IntKind.i64 a1_1)]]
              [])
            fun l =>
            gdK none l.head? fun x =>
              gdK none (T.int? IntKind.i64 x) fun n =>
                gdK none l.tail.head? fun x =>
                  gdK none (T.int? IntKind.i64 x) fun n_1 =>
                    gdK none (List.drop 2 l).head? fun x =>
                      gdK none (T.int? IntKind.i64 x) fun n_2 =>
                        gdK none (List.drop 2 l).tail.head? fun x =>
                          gdK none (T.int? IntKind.i64 x) fun n_3 =>
                            gdK none
                              (askO (some !bif n_2 == (3 : Int) then true else n_2 == (10 : Int))
                                (O (Key.call 17) [AV.t (T.int IntKind.i64 a2)] []))
                              fun l =>
                              gdK (some !bif n_2 == (3 : Int) then true else n_2 == (10 : Int)) l.head? fun x =>
                                gdK (some !bif n_2 == (3 : Int) then true else n_2 == (10 : Int)) x.bool? fun b =>
                                  bif bif bif n_2 == (3 : Int) then true else n_2 == (10 : Int) then true else !b then
                                    gdK none
                                      (askO (some !(n == (0 : Int) && (n_1 == (0 : Int) && true)))
                                        (O (Key.call 17) [AV.t (T.int IntKind.i64 a2)] []))
                                      fun l =>
                                      gdK (some !(n == (0 : Int) && (n_1 == (0 : Int) && true))) l.head? fun x =>
                                        gdK (some !(n == (0 : Int) && (n_1 == (0 : Int) && true))) x.bool? fun b =>
                                          some
                                            [T.bool (bif n == (0 : Int) && (n_1 == (0 : Int) && true) then true else !b)]
                                  else
                                    gdK none
                                      (O (Key.call 19)
                                        [AV.t (T.int IntKind.i64 a2),
                                          AV.agg [AV.t (T.int IntKind.i64 a0_0), AV.t (T.int IntKind.i64 a0_1)]]
                                        [])
                                      fun l =>
                                      gdK none l.head? fun x =>
                                        gdK none x.bool? fun b =>
                                          gdK none
                                            (askO (some b)
                                              (O (Key.call 19)
                                                [AV.t (T.int IntKind.i64 a2),
                                                  AV.agg [AV.t (T.int IntKind.i64 a1_0), AV.t (T.int IntKind.i64 a1_1)]]
                                                []))
                                            fun l =>
                                            gdK (some b) l.head? fun x =>
                                              gdK (some b) x.bool? fun b_1 =>
                                                bif !n_2 == (0 : Int) then
                                                  some
                                                    [T.bool
                                                        (bif !bif b then b_1 else false then
                                                          n == (0 : Int) && (n_1 == (0 : Int) && true)
                                                        else false)]
                                                else
                                                  gdK none
                                                    (O (Key.call 13)
                                                      [AV.agg [AV.t (T.int IntKind.i64 n), AV.t (T.int IntKind.i64 n_1)]]
                                                      [])
                                                    fun l =>
                                                    gdK none l.head? fun x =>
                                                      gdK none x.bool? fun b_2 =>
                                                        gdK none
                                                          (askO (some b_2)
                                                            (O (Key.call 19)
                                                              [AV.t (T.int IntKind.i64 a2),
                                                                AV.agg
                                                                  [AV.t (T.int IntKind.i64 n),
                                                                    AV.t (T.int IntKind.i64 n_1)]]
                                                              []))
                                                          fun l =>
                                                          gdK (some b_2) l.head? fun x =>
                                                            gdK (some b_2) x.bool? fun b_3 =>
                                                              some
                                                                [T.bool
                                                                    (bif b_2 then (bif b then b_1 else false) == b_3
                                                                    else false)]) := by kernel_rfl
theorem e19 (O : Orc) (a0 : Int) (a1_0 : Int) (a1_1 : Int) : stepO PROG ann O (Key.call 19) [(AV.t (T.int IntKind.i64 a0)), (AV.agg [(AV.t (T.int IntKind.i64 a1_0)), (AV.t (T.int IntKind.i64 a1_1))])] [] =
  (gdK none (if a1_1 = (0 : Int) then none else some ()) fun x =>
    gdK none (if a1_1 = (0 : Int) then none else some ()) fun x =>
      some [T.bool ((IntKind.i64.wrap (a0.tmod a1_1 + a1_1)).tmod a1_1 == a1_0)]) := by kernel_rfl
theorem e6 (O : Orc) (a0_0 a0_1 a1_0 a1_1 a2_0 a2_1 : Int) : stepO PROG ann O (Key.call 6) [AV.agg [AV.t (T.int IntKind.i64 a0_0), AV.t (T.int IntKind.i64 a0_1)], AV.agg [AV.t (T.int IntKind.i64 a1_0), AV.t (T.int IntKind.i64 a1_1)], AV.agg [AV.t (T.int IntKind.i64 a2_0), AV.t (T.int IntKind.i64 a2_1)]] [] =
  (gdK none (O (Key.call 11) [] []) fun l =>
    gdK none l.head? fun x =>
      gdK none x.bool? fun b =>
        bif !b then some [T.bool false]
        else
          gdK none
            (O (Key.call 9)
              [AV.agg [AV.t (T.int IntKind.i64 a0_0), AV.t (T.int IntKind.i64 a0_1)],
                AV.agg [AV.t (T.int IntKind.i64 a1_0), AV.t (T.int IntKind.i64 a1_1)]]
              [])
            fun l =>
            gdK none l.head? fun x =>
              gdK none (T.int? IntKind.i64 x) fun n =>
                gdK none l.tail.head? fun x =>
                  gdK none (T.int? IntKind.i64 x) fun n_1 =>
                    gdK none (List.drop 2 l).head? fun x =>
                      gdK none (T.int? IntKind.i64 x) fun n_2 =>
                        gdK none (List.drop 2 l).tail.head? fun x =>
                          gdK none (T.int? IntKind.i64 x) fun n_3 =>
                            gdK none
                              (O (Key.call 9)
                                [AV.agg [AV.t (T.int IntKind.i64 a1_0), AV.t (T.int IntKind.i64 a1_1)],
                                  AV.agg [AV.t (T.int IntKind.i64 a0_0), AV.t (T.int IntKind.i64 a0_1)]]
                                [])
                              fun l =>
                              gdK none l.head? fun x =>
                                gdK none (T.int? IntKind.i64 x) fun n_4 =>
                                  gdK none l.tail.head? fun x =>
                                    gdK none (T.int? IntKind.i64 x) fun n_5 =>
                                      gdK none (List.drop 2 l).head? fun x =>
                                        gdK none (T.int? IntKind.i64 x) fun n_6 =>
                                          gdK none (List.drop 2 l).tail.head? fun x =>
                                            gdK none (T.int? IntKind.i64 x) fun n_7 =>
                                              bif
                                                  bif bif !n_2 == n_6 then !n_2 == (3 : Int) else false then true
                                                  else !(n == n_4 && (n_1 == n_5 && true)) then
                                                some [T.bool false]
                                              else
                                                gdK none
                                                  (O (Key.call 10)
                                                    [AV.t
                                                        (T.lst 2 false
                                                          [[T.int IntKind.i64 a0_0, T.int IntKind.i64 a0_1],
                                                            [T.int IntKind.i64 a1_0, T.int IntKind.i64 a1_1],
                                                            [T.int IntKind.i64 a2_0, T.int IntKind.i64 a2_1]])]
                                                    [])
                                                  fun l =>
                                                  gdK none l.head? fun x =>
                                                    gdK none (T.int? IntKind.i64 x) fun n_8 =>
                                                      gdK none l.tail.head? fun x =>
                                                        gdK none (T.int? IntKind.i64 x) fun n_9 =>
                                                          gdK none (List.drop 2 l).head? fun x =>
                                                            gdK none (T.int? IntKind.i64 x) fun n_10 =>
                                                              gdK none (List.drop 2 l).tail.head? fun x =>
                                                                gdK none (T.int? IntKind.i64 x) fun n_11 =>
                                                                  gdK none
                                                                    (List.drop 2 (List.drop 2 l)).head?
                                                                    fun x =>
                                                                    gdK none (T.int? IntKind.i64 x) fun n_12 =>
                                                                      gdK none
                                                                        (List.drop 2
                                                                              (List.drop 2 l)).tail.head?
                                                                        fun x =>
                                                                        gdK none (T.int? IntKind.i64 x) fun n_13 =>
                                                                          gdK none
                                                                            (O (Key.call 9)
                                                                              [AV.agg
                                                                                  [AV.t (T.int IntKind.i64 n),
                                                                                    AV.t (T.int IntKind.i64 n_1)],
                                                                                AV.agg
                                                                                  [AV.t (T.int IntKind.i64 a2_0),
                                                                                    AV.t (T.int IntKind.i64 a2_1)]]
                                                                              [])
                                                                            fun l =>
                                                                            gdK none l.head? fun x =>
                                                                              gdK none (T.int? IntKind.i64 x) fun n =>
                                                                                gdK none l.tail.head? fun x =>
                                                                                  gdK none (T.int? IntKind.i64 x)
                                                                                    fun n_14 =>
                                                                                    gdK none (List.drop 2 l).head?
                                                                                      fun x =>
                                                                                      gdK none (T.int? IntKind.i64 x)
                                                                                        fun n_15 =>
                                                                                        gdK none
                                                                                          (List.drop 2
                                                                                                l).tail.head?
                                                                                          fun x =>
                                                                                          gdK none (T.int? IntKind.i64 x)
                                                                                            fun n_16 =>
                                                                                            bif
                                                                                                bif
                                                                                                    bif
                                                                                                        !n_2 ==
                                                                                                            (0 : Int) then
                                                                                                      true
                                                                                                    else
                                                                                                      !n_15 ==
                                                                                                          (0 : Int) then
                                                                                                  true
                                                                                                else
                                                                                                  !n_12 == (0 : Int) then
                                                                                              some [T.bool true]
                                                                                            else
                                                                                              some
                                                                                                [T.bool
                                                                                                    (n_8 == n &&
                                                                                                      (n_9 == n_14 &&
                                                                                                        true))]) := by kernel_rfl
theorem e7 (O : Orc) (ea0 : Bool) (a0 : List (List T)) : stepO PROG ann O (Key.call 7) [AV.t (T.lst 2 ea0 a0)] [] =
  (gdK none (O (Key.call 11) [] []) fun l =>
    gdK none l.head? fun x =>
      gdK none x.bool? fun b =>
        bif !b then some [T.bool false]
        else
          gdK none (O (Key.call 10) [AV.t (T.lst 2 ea0 a0)] []) fun l =>
            gdK none l.head? fun x =>
              gdK none (T.int? IntKind.i64 x) fun n =>
                gdK none l.tail.head? fun x =>
                  gdK none (T.int? IntKind.i64 x) fun n_1 =>
                    gdK none (List.drop 2 l).head? fun x =>
                      gdK none (T.int? IntKind.i64 x) fun n_2 =>
                        gdK none (List.drop 2 l).tail.head? fun x =>
                          gdK none (T.int? IntKind.i64 x) fun n_3 =>
                            gdK none (List.drop 2 (List.drop 2 l)).head? fun x =>
                              gdK none (T.int? IntKind.i64 x) fun n_4 =>
                                gdK none (List.drop 2 (List.drop 2 l)).tail.head? fun x =>
                                  gdK none (T.int? IntKind.i64 x) fun n_5 =>
                                    bif n_4 == (6 : Int) then
                                      bif
                                          bif bif decide (n_2 < (0 : Int)) then true else decide (n_2 ≥ n_3) then true
                                          else decide (n_3 ≥ (↑a0.length : Int)) then
                                        some [T.bool false]
                                      else
                                        gdK none (if (0 : Int) ≤ n_2 ∧ n_2 < (↑a0.length : Int) then some () else none)
                                          fun x =>
                                          gdK none a0[n_2.toNat]? fun l =>
                                            gdK none l.head? fun x =>
                                              gdK none l.tail.head? fun x_1 =>
                                                gdK none (T.int? IntKind.i64 x) fun n_6 =>
                                                  gdK none (T.int? IntKind.i64 x_1) fun n_7 =>
                                                    gdK none
                                                      (if (0 : Int) ≤ n_3 ∧ n_3 < (↑a0.length : Int) then some ()
                                                      else none)
                                                      fun x =>
                                                      gdK none a0[n_3.toNat]? fun l =>
                                                        gdK none l.head? fun x =>
                                                          gdK none l.tail.head? fun x_2 =>
                                                            gdK none (T.int? IntKind.i64 x) fun n_8 =>
                                                              gdK none (T.int? IntKind.i64 x_2) fun n_9 =>
                                                                gdK none
                                                                  (O (Key.call 9)
                                                                    [AV.agg
                                                                        [AV.t (T.int IntKind.i64 n_6),
                                                                          AV.t (T.int IntKind.i64 n_7)],
                                                                      AV.agg
                                                                        [AV.t (T.int IntKind.i64 n_8),
                                                                          AV.t (T.int IntKind.i64 n_9)]]
                                                                    [])
                                                                  fun l =>
                                                                  gdK none l.head? fun x =>
                                                                    gdK none (T.int? IntKind.i64 x) fun n_10 =>
                                                                      gdK none l.tail.head? fun x =>
                                                                        gdK none (T.int? IntKind.i64 x) fun n_11 =>
                                                                          gdK none (List.drop 2 l).head? fun x =>
                                                                            gdK none (T.int? IntKind.i64 x) fun n_12 =>
                                                                              gdK none (List.drop 2 l).tail.head?
                                                                                fun x =>
                                                                                gdK none (T.int? IntKind.i64 x)
                                                                                  fun n_13 =>
                                                                                  some
                                                                                    [T.bool
                                                                                        (bif n_12 == (6 : Int) then
                                                                                          n == (0 : Int) &&
                                                                                            (n_1 == (0 : Int) && true)
                                                                                        else false)]
                                    else
                                      bif !n_4 == (0 : Int) then
                                        some
                                          [T.bool
                                              (bif n == (0 : Int) && (n_1 == (0 : Int) && true) then
                                                n_2 == (0 : Int) && (n_3 == (0 : Int) && true)
                                              else false)]
                                      else
                                        O
                                          K7n13
                                          [AV.t (T.lst 2 ea0 a0), AV.ref (Id.c 0) 0,
                                            AV.ref (Id.c 1) 0, AV.t (T.int IntKind.i64 (0 : Int))]
                                          [Blk.box [AV.t (T.int IntKind.i64 n), AV.t (T.int IntKind.i64 n_1)],
                                            Blk.box [AV.t (T.int IntKind.i64 n_2), AV.t (T.int IntKind.i64 n_3)]]) := by kernel_rfl
theorem e7n13 (O : Orc) (ev0 : Bool) (v0 : List (List T)) (v9 : Int) (c0_0 : Int) (c0_1 : Int) (c1_0 : Int) (c1_1 : Int) : stepO PROG ann O K7n13 [(AV.t (T.lst 2 ev0 v0)), (AV.ref (Id.c 0) 0), (AV.ref (Id.c 1) 0), (AV.t (T.int IntKind.i64 v9))] [(Blk.box [(AV.t (T.int IntKind.i64 c0_0)), (AV.t (T.int IntKind.i64 c0_1))]), (Blk.box [(AV.t (T.int IntKind.i64 c1_0)), (AV.t (T.int IntKind.i64 c1_1))])] =
  (bif decide (v9 < (↑v0.length : Int)) then
    gdK none (if (0 : Int) ≤ v9 ∧ v9 < (↑v0.length : Int) then some () else none) fun x =>
      gdK none v0[v9.toNat]? fun l =>
        gdK none l.head? fun x =>
          gdK none l.tail.head? fun x_1 =>
            gdK none (T.int? IntKind.i64 x) fun n =>
              gdK none (T.int? IntKind.i64 x_1) fun n_1 =>
                gdK none
                  (O (Key.call 19)
                    [AV.t (T.int IntKind.i64 c0_0), AV.agg [AV.t (T.int IntKind.i64 n), AV.t (T.int IntKind.i64 n_1)]] [])
                  fun l =>
                  gdK none l.head? fun x =>
                    gdK none x.bool? fun b =>
                      gdK (some !!b) (if (0 : Int) ≤ v9 ∧ v9 < (↑v0.length : Int) then some () else none) fun x =>
                        gdK (some !!b) v0[v9.toNat]? fun l =>
                          gdK (some !!b) (List.drop 1 l).head? fun x =>
                            gdK (some !!b) (T.int? IntKind.i64 x) fun n =>
                              gdK (some !!b) (if n = (0 : Int) then none else some ()) fun x =>
                                bif bif !b then true else !c0_1.tmod n == (0 : Int) then some [T.bool false]
                                else
                                  O
                                    K7n13
                                    [AV.t (T.lst 2 ev0 v0), AV.ref (Id.c 0) 0,
                                      AV.ref (Id.c 1) 0,
                                      AV.t (T.int IntKind.i64 (IntKind.i64.wrap (v9 + (1 : Int))))]
                                    [Blk.box [AV.t (T.int IntKind.i64 c0_0), AV.t (T.int IntKind.i64 c0_1)],
                                      Blk.box [AV.t (T.int IntKind.i64 c1_0), AV.t (T.int IntKind.i64 c1_1)]]
  else some [T.bool (c1_0 == (0 : Int) && (c1_1 == (0 : Int) && true))]) := by kernel_rfl
theorem e8 (O : Orc) (a0 a1 a2 a3 : Int) : stepO PROG ann O (Key.call 8) [AV.t (T.int IntKind.i64 a0), AV.t (T.int IntKind.i64 a1), AV.t (T.int IntKind.i64 a2), AV.t (T.int IntKind.i64 a3)] [] =
  (gdK none (O (Key.call 11) [] []) fun l =>
    gdK none l.head? fun x =>
      gdK none x.bool? fun b =>
        bif !b then some [T.bool false]
        else
          gdK none
            (O (Key.call 16)
              [AV.t (T.int IntKind.i64 a0), AV.t (T.int IntKind.i64 a1), AV.t (T.int IntKind.i64 a2)] [])
            fun l =>
            gdK none l.head? fun x =>
              gdK none (T.int? IntKind.i64 x) fun n =>
                gdK none l.tail.head? fun x =>
                  gdK none (T.int? IntKind.i64 x) fun n_1 =>
                    gdK none (List.drop 2 l).head? fun x =>
                      gdK none (T.int? IntKind.i64 x) fun n_2 =>
                        gdK none (List.drop 2 l).tail.head? fun x =>
                          gdK none (T.int? IntKind.i64 x) fun n_3 =>
                            gdK none
                              (askO (some !n_2 == (3 : Int)) (O (Key.call 17) [AV.t (T.int IntKind.i64 a3)] []))
                              fun l =>
                              gdK (some !n_2 == (3 : Int)) l.head? fun x =>
                                gdK (some !n_2 == (3 : Int)) x.bool? fun b =>
                                  bif bif n_2 == (3 : Int) then true else !b then
                                    some
                                      [T.bool
                                          (bif !n_2 == (3 : Int) then true
                                          else n == (0 : Int) && (n_1 == (0 : Int) && true))]
                                  else
                                    gdK none (if a2 = (0 : Int) then none else some ()) fun x =>
                                      bif !n_2 == (0 : Int) then
                                        some
                                          [T.bool
                                              !(IntKind.i64.wrap (IntKind.i64.wrap (a0 * a3) - a1)).tmod a2 == (0 : Int)]
                                      else
                                        gdK none
                                          (O (Key.call 13)
                                            [AV.agg [AV.t (T.int IntKind.i64 n), AV.t (T.int IntKind.i64 n_1)]] [])
                                          fun l =>
                                          gdK none l.head? fun x =>
                                            gdK none x.bool? fun b =>
                                              gdK none
                                                (askO (some b)
                                                  (O (Key.call 19)
                                                    [AV.t (T.int IntKind.i64 a3),
                                                      AV.agg [AV.t (T.int IntKind.i64 n), AV.t (T.int IntKind.i64 n_1)]]
                                                    []))
                                                fun l =>
                                                gdK (some b) l.head? fun x =>
                                                  gdK (some b) x.bool? fun b_1 =>
                                                    some
                                                      [T.bool
                                                          (bif b then
                                                            ((IntKind.i64.wrap (IntKind.i64.wrap (a0 * a3) - a1)).tmod
                                                                  a2 ==
                                                                (0 : Int)) ==
                                                              b_1
                                                          else false)]) := by kernel_rfl
theorem e16 (O : Orc) (a0 a1 a2 : Int) : stepO PROG ann O (Key.call 16) [AV.t (T.int IntKind.i64 a0), AV.t (T.int IntKind.i64 a1), AV.t (T.int IntKind.i64 a2)] [] =
  (bif bif decide (a2 < (1 : Int)) then true else decide (a2 > (1000000 : Int)) then
    some
      [T.int IntKind.i64 (0 : Int), T.int IntKind.i64 (0 : Int), T.int IntKind.i64 (3 : Int), T.int IntKind.i64 (2 : Int)]
  else
    gdK none (O (Key.call 23) [AV.t (T.int IntKind.i64 a0)] []) fun l =>
      gdK none l.head? fun x =>
        gdK none x.bool? fun b =>
          bif !b then
            some
              [T.int IntKind.i64 (0 : Int), T.int IntKind.i64 (0 : Int), T.int IntKind.i64 (3 : Int),
                T.int IntKind.i64 (0 : Int)]
          else
            gdK none (O (Key.call 23) [AV.t (T.int IntKind.i64 a1)] []) fun l =>
              gdK none l.head? fun x =>
                gdK none x.bool? fun b =>
                  bif !b then
                    some
                      [T.int IntKind.i64 (0 : Int), T.int IntKind.i64 (0 : Int), T.int IntKind.i64 (3 : Int),
                        T.int IntKind.i64 (1 : Int)]
                  else
                    gdK none (O (Key.call 25) [AV.t (T.int IntKind.i64 a0), AV.t (T.int IntKind.i64 a2)] [])
                      fun l =>
                      gdK none l.head? fun x =>
                        gdK none (T.int? IntKind.i64 x) fun n =>
                          gdK none (O (Key.call 24) [AV.t (T.int IntKind.i64 n), AV.t (T.int IntKind.i64 a2)] [])
                            fun l =>
                            gdK none l.head? fun x =>
                              gdK none (T.int? IntKind.i64 x) fun n =>
                                gdK none l.tail.head? fun x =>
                                  gdK none (T.int? IntKind.i64 x) fun n_1 =>
                                    gdK none (if n = (0 : Int) then none else some ()) fun x =>
                                      bif !a1.tmod n == (0 : Int) then
                                        some
                                          [T.int IntKind.i64 (0 : Int), T.int IntKind.i64 (0 : Int),
                                            T.int IntKind.i64 (6 : Int), T.int IntKind.i64 (0 : Int)]
                                      else
                                        gdK none (if n = (0 : Int) then none else some ()) fun x =>
                                          gdK none (if n = (0 : Int) then none else some ()) fun x =>
                                            gdK none
                                              (O (Key.call 25)
                                                [AV.t (T.int IntKind.i64 (IntKind.i64.wrap (a1.tdiv n))),
                                                  AV.t (T.int IntKind.i64 (IntKind.i64.wrap (a2.tdiv n)))]
                                                [])
                                              fun l =>
                                              gdK none l.head? fun x =>
                                                gdK none (T.int? IntKind.i64 x) fun n_2 =>
                                                  gdK none
                                                    (O (Key.call 25)
                                                      [AV.t (T.int IntKind.i64 n_1),
                                                        AV.t (T.int IntKind.i64 (IntKind.i64.wrap (a2.tdiv n)))]
                                                      [])
                                                    fun l =>
                                                    gdK none l.head? fun x =>
                                                      gdK none (T.int? IntKind.i64 x) fun n_3 =>
                                                        gdK none
                                                          (O (Key.call 25)
                                                            [AV.t (T.int IntKind.i64 (IntKind.i64.wrap (n_2 * n_3))),
                                                              AV.t (T.int IntKind.i64 (IntKind.i64.wrap (a2.tdiv n)))]
                                                            [])
                                                          fun l =>
                                                          gdK none l.head? fun x =>
                                                            gdK none (T.int? IntKind.i64 x) fun n_4 =>
                                                              some
                                                                [T.int IntKind.i64 n_4,
                                                                  T.int IntKind.i64 (IntKind.i64.wrap (a2.tdiv n)),
                                                                  T.int IntKind.i64 (0 : Int),
                                                                  T.int IntKind.i64 (0 : Int)]) := by kernel_rfl
theorem e23 (O : Orc) (a0 : Int) : stepO PROG ann O (Key.call 23) [(AV.t (T.int IntKind.i64 a0))] [] =
  (some [T.bool (bif decide (a0 ≥ (-1000000 : Int)) then decide (a0 ≤ (1000000 : Int)) else false)]) := by kernel_rfl
end Go.Aev.Gen
