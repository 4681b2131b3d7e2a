/-
  The words of the program and the document, as the evaluator reads them.
-/
import Derived.Test.YtldfekaodgfgmaaAevGlue
import Derived.Test.YtldfekaodgfgmaaChecked
import Derived.KernelRfl
set_option linter.unusedSimpArgs false
set_option linter.unusedVariables false
namespace Go.Aev.Gen
open Go Go.Aev
noncomputable abbrev PROG := Go.Proofs.Try.prog
def ann : Ann := Ann.mk (fun f r => match f, r with
    | 4, 21 => some [(2, none), (14, none), (16, none)]
    | 8, 8 => some [(0, none), (1, none), (2, none), (3, none), (9, none), (33, none), (34, none), (35, none)]
    | 10, 13 => some [(0, none), (1, none), (2, none), (3, none), (8, none), (10, none)]
    | 11, 11 => some [(1, none), (9, none), (11, none), (12, none)]
    | 11, 18 => some [(0, none), (1, none), (9, none), (10, none), (11, none), (13, none)]
    | 11, 25 => some [(1, none), (9, none), (10, none), (11, none), (14, none)]
    | 11, 33 => some [(3, none), (11, none), (15, none)]
    | 11, 38 => some [(9, none), (10, none), (16, none)]
    | 12, 7 => some [(0, none), (5, none), (6, some 1), (19, none), (20, none)]
    | 13, 5 => some [(3, none), (4, none), (12, none), (13, none), (14, none)]
    | 16, 7 => some [(2, none), (3, none), (5, none), (7, none), (9, none), (31, none), (32, none), (33, none)]
    | 16, 12 => some [(2, none), (3, none), (5, none), (7, none), (9, none), (10, none), (11, none), (12, none), (13, none), (31, none), (32, none), (33, none), (44, none), (45, none), (46, none)]
    | 21, 3 => some [(0, none), (1, none), (5, some 1), (6, none)]
    | 22, 4 => some [(0, none), (1, none), (5, some 1), (6, none), (7, none)]
    | 24, 3 => some [(0, none), (3, none), (4, none)]
    | _, _ => none) (fun _ _ => none) (fun _ => none)
theorem hm : PROG.follows .mixedOrders = true := by kernel_rfl
noncomputable abbrev K8n8 : Key := nodeKey PROG 8 true 8 [(0, none), (1, none), (2, none), (3, none), (9, none), (33, none), (34, none), (35, none)] 0
noncomputable abbrev K10n13 : Key := nodeKey PROG 10 true 13 [(0, none), (1, none), (2, none), (3, none), (8, none), (10, none)] 0
noncomputable abbrev K11n11 : Key := nodeKey PROG 11 true 11 [(1, none), (9, none), (11, none), (12, none)] 0
noncomputable abbrev K11n25 : Key := nodeKey PROG 11 true 25 [(1, none), (9, none), (10, none), (11, none), (14, none)] 0
noncomputable abbrev K11n33 : Key := nodeKey PROG 11 true 33 [(3, none), (11, none), (15, none)] 0
noncomputable abbrev K11n38 : Key := nodeKey PROG 11 true 38 [(9, none), (10, none), (16, none)] 0
noncomputable abbrev K21n3 : Key := nodeKey PROG 21 true 3 [(0, none), (1, none), (5, some 1), (6, none)] 0
noncomputable abbrev K22n4 : Key := nodeKey PROG 22 true 4 [(0, none), (1, none), (5, some 1), (6, none), (7, none)] 0
noncomputable abbrev K24n3 : Key := nodeKey PROG 24 true 3 [(0, none), (3, none), (4, none)] 0
noncomputable abbrev K4n21 : Key := nodeKey PROG 4 true 21 [(2, none), (14, none), (16, none)] 0
noncomputable abbrev K12n7 : Key := nodeKey PROG 12 true 7 [(0, none), (5, none), (6, some 1), (19, none), (20, none)] 0
noncomputable abbrev K13n5 : Key := nodeKey PROG 13 true 5 [(3, none), (4, none), (12, none), (13, none), (14, none)] 0
noncomputable abbrev K11n18 : Key := nodeKey PROG 11 true 18 [(0, none), (1, none), (9, none), (10, none), (11, none), (13, none)] 0
theorem e3 (O : Orc) (a0 a1 : Int) (ea2 : Bool) (a2 : List (List T)) (a3 : Int) : stepO PROG ann O (Key.call 3) [AV.t (T.int IntKind.i64 a0), AV.t (T.int IntKind.i64 a1), AV.t (T.lst 1 ea2 a2), AV.t (T.int IntKind.i64 a3)] [] =
  (gdK none
    (O (Key.call 8)
      [AV.t (T.int IntKind.i64 a0), AV.t (T.int IntKind.i64 a1), AV.t (T.lst 1 ea2 a2),
        AV.t (T.int IntKind.i64 a3)]
      [])
    fun l =>
    gdK none l.head? fun x =>
      gdK none (T.int? IntKind.i64 x) fun n =>
        gdK none l.tail.head? fun x =>
          gdK none (T.int? IntKind.i64 x) fun n_1 =>
            gdK none l.tail.tail.head? fun x =>
              gdK none (T.int? IntKind.i64 x) fun n_2 =>
                gdK none (O (Key.call 9) [] []) fun l =>
                  gdK none l.head? fun x =>
                    gdK none x.bool? fun b =>
                      bif !b then some [T.bool false]
                      else
                        gdK none
                          (O (Key.call 10)
                            [AV.t (T.int IntKind.i64 a0), AV.t (T.int IntKind.i64 a1), AV.t (T.lst 1 ea2 a2),
                              AV.t (T.int IntKind.i64 a3)]
                            [])
                          fun l =>
                          gdK none l.head? fun x =>
                            gdK none (T.int? IntKind.i64 x) fun n_3 =>
                              gdK none l.tail.head? fun x =>
                                gdK none (T.int? IntKind.i64 x) fun n_4 =>
                                  bif !n_3 == (0 : Int) then
                                    some [T.bool (bif n_1 == n_3 && (n_2 == n_4 && true) then n == (0 : Int) else false)]
                                  else
                                    gdK none
                                      (askO (some (n_1 == (0 : Int)))
                                        (O (Key.call 11)
                                          [AV.t (T.int IntKind.i64 a0), AV.t (T.int IntKind.i64 a1),
                                            AV.t (T.lst 1 ea2 a2), AV.t (T.int IntKind.i64 a3)]
                                          []))
                                      fun l =>
                                      gdK (some (n_1 == (0 : Int))) l.head? fun x =>
                                        gdK (some (n_1 == (0 : Int))) (T.int? IntKind.i64 x) fun n_5 =>
                                          some [T.bool (bif n_1 == (0 : Int) then n == n_5 else false)]) := by kernel_rfl
theorem e8 (O : Orc) (a0 : Int) (a1 : Int) (ea2 : Bool) (a2 : List (List T)) (a3 : Int) : stepO PROG ann O (Key.call 8) [(AV.t (T.int IntKind.i64 a0)), (AV.t (T.int IntKind.i64 a1)), (AV.t (T.lst 1 ea2 a2)), (AV.t (T.int IntKind.i64 a3))] [] =
  (bif bif decide (a0 < (15 : Int)) then true else decide (a0 > (23 : Int)) then
    some [T.int IntKind.i64 (0 : Int), T.int IntKind.i64 (4 : Int), T.int IntKind.i64 (0 : Int)]
  else
    gdK none (O (Key.call 17) [AV.t (T.int IntKind.i64 a1)] []) fun l =>
      gdK none l.head? fun x =>
        gdK none x.bool? fun b =>
          bif !b then some [T.int IntKind.i64 (0 : Int), T.int IntKind.i64 (3 : Int), T.int IntKind.i64 (-1 : Int)]
          else
            gdK none (O (Key.call 18) [AV.t (T.int IntKind.i64 a0)] []) fun l =>
              gdK none l.head? fun x =>
                gdK none (T.int? IntKind.i64 x) fun n =>
                  bif !(↑a2.length : Int) == n then
                    some [T.int IntKind.i64 (0 : Int), T.int IntKind.i64 (9 : Int), T.int IntKind.i64 (0 : Int)]
                  else
                    O
                      K8n8
                      [AV.t (T.int IntKind.i64 a0), AV.t (T.int IntKind.i64 a1), AV.t (T.lst 1 ea2 a2),
                        AV.t (T.int IntKind.i64 a3), AV.ref (Id.c 0) 0, AV.t (T.lst 1 ea2 a2),
                        AV.t (T.int IntKind.i64 (↑a2.length : Int)), AV.t (T.int IntKind.i64 (0 : Int))]
                      [Blk.box [AV.t (T.int IntKind.i64 (0 : Int)), AV.t (T.int IntKind.i64 (0 : Int))]]) := by kernel_rfl
theorem e10 (O : Orc) (a0 : Int) (a1 : Int) (ea2 : Bool) (a2 : List (List T)) (a3 : Int) : stepO PROG ann O (Key.call 10) [(AV.t (T.int IntKind.i64 a0)), (AV.t (T.int IntKind.i64 a1)), (AV.t (T.lst 1 ea2 a2)), (AV.t (T.int IntKind.i64 a3))] [] =
  (bif bif decide (a0 < (15 : Int)) then true else decide (a0 > (23 : Int)) then
    gdK none (O (Key.call 14) [AV.t (T.int IntKind.i64 (4 : Int)), AV.t (T.int IntKind.i64 (0 : Int))] [])
      fun l =>
      gdK none l.head? fun x =>
        gdK none (T.int? IntKind.i64 x) fun n =>
          gdK none l.tail.head? fun x =>
            gdK none (T.int? IntKind.i64 x) fun n_1 => some [T.int IntKind.i64 n, T.int IntKind.i64 n_1]
  else
    bif bif decide (a1 < (1 : Int)) then true else decide (a1 > (8 : Int)) then
      gdK none (O (Key.call 14) [AV.t (T.int IntKind.i64 (3 : Int)), AV.t (T.int IntKind.i64 (-1 : Int))] [])
        fun l =>
        gdK none l.head? fun x =>
          gdK none (T.int? IntKind.i64 x) fun n =>
            gdK none l.tail.head? fun x =>
              gdK none (T.int? IntKind.i64 x) fun n_1 => some [T.int IntKind.i64 n, T.int IntKind.i64 n_1]
    else
      bif a0 == (15 : Int) then
        bif bif a0 == (16 : Int) then true else a0 == (23 : Int) then
          bif !(↑a2.length : Int) == (1 : Int) then
            gdK none (O (Key.call 14) [AV.t (T.int IntKind.i64 (9 : Int)), AV.t (T.int IntKind.i64 (0 : Int))] [])
              fun l =>
              gdK none l.head? fun x =>
                gdK none (T.int? IntKind.i64 x) fun n =>
                  gdK none l.tail.head? fun x =>
                    gdK none (T.int? IntKind.i64 x) fun n_1 => some [T.int IntKind.i64 n, T.int IntKind.i64 n_1]
          else
            O
              K10n13
              [AV.t (T.int IntKind.i64 a0), AV.t (T.int IntKind.i64 a1), AV.t (T.lst 1 ea2 a2),
                AV.t (T.int IntKind.i64 a3), AV.ref (Id.c 0) 0, AV.t (T.int IntKind.i64 (0 : Int))]
              [Blk.box [AV.t (T.int IntKind.i64 (0 : Int)), AV.t (T.int IntKind.i64 (0 : Int))]]
        else
          bif !(↑a2.length : Int) == (0 : Int) then
            gdK none (O (Key.call 14) [AV.t (T.int IntKind.i64 (9 : Int)), AV.t (T.int IntKind.i64 (0 : Int))] [])
              fun l =>
              gdK none l.head? fun x =>
                gdK none (T.int? IntKind.i64 x) fun n =>
                  gdK none l.tail.head? fun x =>
                    gdK none (T.int? IntKind.i64 x) fun n_1 => some [T.int IntKind.i64 n, T.int IntKind.i64 n_1]
          else
            O
              K10n13
              [AV.t (T.int IntKind.i64 a0), AV.t (T.int IntKind.i64 a1), AV.t (T.lst 1 ea2 a2),
                AV.t (T.int IntKind.i64 a3), AV.ref (Id.c 0) 0, AV.t (T.int IntKind.i64 (0 : Int))]
              [Blk.box [AV.t (T.int IntKind.i64 (0 : Int)), AV.t (T.int IntKind.i64 (0 : Int))]]
      else
        bif bif a0 == (16 : Int) then true else a0 == (23 : Int) then
          bif !(↑a2.length : Int) == (1 : Int) then
            gdK none (O (Key.call 14) [AV.t (T.int IntKind.i64 (9 : Int)), AV.t (T.int IntKind.i64 (0 : Int))] [])
              fun l =>
              gdK none l.head? fun x =>
                gdK none (T.int? IntKind.i64 x) fun n =>
                  gdK none l.tail.head? fun x =>
                    gdK none (T.int? IntKind.i64 x) fun n_1 => some [T.int IntKind.i64 n, T.int IntKind.i64 n_1]
          else
            O
              K10n13
              [AV.t (T.int IntKind.i64 a0), AV.t (T.int IntKind.i64 a1), AV.t (T.lst 1 ea2 a2),
                AV.t (T.int IntKind.i64 a3), AV.ref (Id.c 0) 0, AV.t (T.int IntKind.i64 (0 : Int))]
              [Blk.box [AV.t (T.int IntKind.i64 (0 : Int)), AV.t (T.int IntKind.i64 (0 : Int))]]
        else
          bif !(↑a2.length : Int) == (2 : Int) then
            gdK none (O (Key.call 14) [AV.t (T.int IntKind.i64 (9 : Int)), AV.t (T.int IntKind.i64 (0 : Int))] [])
              fun l =>
              gdK none l.head? fun x =>
                gdK none (T.int? IntKind.i64 x) fun n =>
                  gdK none l.tail.head? fun x =>
                    gdK none (T.int? IntKind.i64 x) fun n_1 => some [T.int IntKind.i64 n, T.int IntKind.i64 n_1]
          else
            O
              K10n13
              [AV.t (T.int IntKind.i64 a0), AV.t (T.int IntKind.i64 a1), AV.t (T.lst 1 ea2 a2),
                AV.t (T.int IntKind.i64 a3), AV.ref (Id.c 0) 0, AV.t (T.int IntKind.i64 (0 : Int))]
              [Blk.box [AV.t (T.int IntKind.i64 (0 : Int)), AV.t (T.int IntKind.i64 (0 : Int))]]) := by kernel_rfl
theorem e11 (O : Orc) (a0 : Int) (a1 : Int) (ea2 : Bool) (a2 : List (List T)) (a3 : Int) : stepO PROG ann O (Key.call 11) [(AV.t (T.int IntKind.i64 a0)), (AV.t (T.int IntKind.i64 a1)), (AV.t (T.lst 1 ea2 a2)), (AV.t (T.int IntKind.i64 a3))] [] =
  (bif a0 == (15 : Int) then some [T.int IntKind.i64 a3]
  else
    gdK none (if (0 : Int) ≤ (0 : Int) ∧ (0 : Int) < (↑a2.length : Int) then some () else none) fun x =>
      gdK none a2[0]? fun l =>
        gdK none l.head? fun x =>
          gdK none (T.int? IntKind.i64 x) fun n =>
            gdK none (O (Key.call 21) [AV.t (T.int IntKind.i64 n), AV.t (T.int IntKind.i64 a1)] []) fun l =>
              gdK none l.head? fun x =>
                gdK none (T.lst? 1 x) fun p =>
                  bif decide ((↑a2.length : Int) > (1 : Int)) then
                    gdK none (if (0 : Int) ≤ (1 : Int) ∧ (1 : Int) < (↑a2.length : Int) then some () else none) fun x =>
                      gdK none a2[1]? fun l =>
                        gdK none l.head? fun x =>
                          gdK none (T.int? IntKind.i64 x) fun n =>
                            gdK none
                              (O (Key.call 21) [AV.t (T.int IntKind.i64 n), AV.t (T.int IntKind.i64 a1)] [])
                              fun l =>
                              gdK none l.head? fun x =>
                                gdK none (T.lst? 1 x) fun p_1 =>
                                  gdK none (mkOk a1 a1) fun x =>
                                    bif a0 == (16 : Int) then
                                      O
                                        K11n11
                                        [AV.t (T.int IntKind.i64 a1), AV.t (T.lst 1 p.fst p.snd),
                                          AV.own (Id.c 0), AV.t (T.int IntKind.i64 (0 : Int))]
                                        [Blk.sl false 1 false (List.replicate a1.toNat [T.bool false])]
                                    else
                                      bif a0 == (17 : Int) then
                                        bif a0 == (17 : Int) then
                                          O
                                            K11n18
                                            [AV.t (T.int IntKind.i64 a0), AV.t (T.int IntKind.i64 a1),
                                              AV.t (T.lst 1 p.fst p.snd), AV.t (T.lst 1 p_1.fst p_1.snd),
                                              AV.own (Id.c 0), AV.t (T.int IntKind.i64 (0 : Int))]
                                            [Blk.sl false 1 false (List.replicate a1.toNat [T.bool false])]
                                        else
                                          bif a0 == (20 : Int) then
                                            gdK none
                                              (O (Key.call 22)
                                                [AV.t (T.lst 1 p.fst p.snd),
                                                  AV.t (T.lst 1 p_1.fst p_1.snd)]
                                                [])
                                              fun l =>
                                              gdK none l.head? fun x =>
                                                gdK none (T.lst? 1 x) fun p =>
                                                  gdK none
                                                    (O (Key.call 24) [AV.t (T.lst 1 p.fst p.snd)] [])
                                                    fun l =>
                                                    gdK none l.head? fun x =>
                                                      gdK none (T.int? IntKind.i64 x) fun n => some [T.int IntKind.i64 n]
                                          else
                                            bif a0 == (21 : Int) then
                                              O
                                                K11n25
                                                [AV.t (T.int IntKind.i64 a1), AV.t (T.lst 1 p.fst p.snd),
                                                  AV.t (T.lst 1 p_1.fst p_1.snd), AV.own (Id.c 0),
                                                  AV.t (T.int IntKind.i64 (0 : Int))]
                                                [Blk.sl false 1 false (List.replicate a1.toNat [T.bool false])]
                                            else
                                              bif a0 == (23 : Int) then
                                                O
                                                  K11n33
                                                  [AV.t (T.int IntKind.i64 a3), AV.t (T.lst 1 p.fst p.snd),
                                                    AV.t (T.int IntKind.i64 (0 : Int))]
                                                  []
                                              else
                                                bif a0 == (22 : Int) then
                                                  O
                                                    K11n38
                                                    [AV.t (T.lst 1 p.fst p.snd),
                                                      AV.t (T.lst 1 p_1.fst p_1.snd),
                                                      AV.t (T.int IntKind.i64 (IntKind.i64.wrap (a1 - (1 : Int))))]
                                                    []
                                                else
                                                  gdK none
                                                    (O (Key.call 24)
                                                      [AV.t
                                                          (T.lst 1 false
                                                            (List.replicate a1.toNat [T.bool false]))]
                                                      [])
                                                    fun l =>
                                                    gdK none l.head? fun x =>
                                                      gdK none (T.int? IntKind.i64 x) fun n => some [T.int IntKind.i64 n]
                                      else
                                        bif a0 == (18 : Int) then
                                          bif a0 == (18 : Int) then
                                            O
                                              K11n18
                                              [AV.t (T.int IntKind.i64 a0), AV.t (T.int IntKind.i64 a1),
                                                AV.t (T.lst 1 p.fst p.snd),
                                                AV.t (T.lst 1 p_1.fst p_1.snd), AV.own (Id.c 0),
                                                AV.t (T.int IntKind.i64 (0 : Int))]
                                              [Blk.sl false 1 false (List.replicate a1.toNat [T.bool false])]
                                          else
                                            bif a0 == (20 : Int) then
                                              gdK none
                                                (O (Key.call 22)
                                                  [AV.t (T.lst 1 p.fst p.snd),
                                                    AV.t (T.lst 1 p_1.fst p_1.snd)]
                                                  [])
                                                fun l =>
                                                gdK none l.head? fun x =>
                                                  gdK none (T.lst? 1 x) fun p =>
                                                    gdK none
                                                      (O (Key.call 24) [AV.t (T.lst 1 p.fst p.snd)] [])
                                                      fun l =>
                                                      gdK none l.head? fun x =>
                                                        gdK none (T.int? IntKind.i64 x) fun n =>
                                                          some [T.int IntKind.i64 n]
                                            else
                                              bif a0 == (21 : Int) then
                                                O
                                                  K11n25
                                                  [AV.t (T.int IntKind.i64 a1), AV.t (T.lst 1 p.fst p.snd),
                                                    AV.t (T.lst 1 p_1.fst p_1.snd), AV.own (Id.c 0),
                                                    AV.t (T.int IntKind.i64 (0 : Int))]
                                                  [Blk.sl false 1 false (List.replicate a1.toNat [T.bool false])]
                                              else
                                                bif a0 == (23 : Int) then
                                                  O
                                                    K11n33
                                                    [AV.t (T.int IntKind.i64 a3), AV.t (T.lst 1 p.fst p.snd),
                                                      AV.t (T.int IntKind.i64 (0 : Int))]
                                                    []
                                                else
                                                  bif a0 == (22 : Int) then
                                                    O
                                                      K11n38
                                                      [AV.t (T.lst 1 p.fst p.snd),
                                                        AV.t (T.lst 1 p_1.fst p_1.snd),
                                                        AV.t (T.int IntKind.i64 (IntKind.i64.wrap (a1 - (1 : Int))))]
                                                      []
                                                  else
                                                    gdK none
                                                      (O (Key.call 24)
                                                        [AV.t
                                                            (T.lst 1 false
                                                              (List.replicate a1.toNat [T.bool false]))]
                                                        [])
                                                      fun l =>
                                                      gdK none l.head? fun x =>
                                                        gdK none (T.int? IntKind.i64 x) fun n =>
                                                          some [T.int IntKind.i64 n]
                                        else
                                          bif a0 == (19 : Int) then
                                            O
                                              K11n18
                                              [AV.t (T.int IntKind.i64 a0), AV.t (T.int IntKind.i64 a1),
                                                AV.t (T.lst 1 p.fst p.snd),
                                                AV.t (T.lst 1 p_1.fst p_1.snd), AV.own (Id.c 0),
                                                AV.t (T.int IntKind.i64 (0 : Int))]
                                              [Blk.sl false 1 false (List.replicate a1.toNat [T.bool false])]
                                          else
                                            bif a0 == (20 : Int) then
                                              gdK none
                                                (O (Key.call 22)
                                                  [AV.t (T.lst 1 p.fst p.snd),
                                                    AV.t (T.lst 1 p_1.fst p_1.snd)]
                                                  [])
                                                fun l =>
                                                gdK none l.head? fun x =>
                                                  gdK none (T.lst? 1 x) fun p =>
                                                    gdK none
                                                      (O (Key.call 24) [AV.t (T.lst 1 p.fst p.snd)] [])
                                                      fun l =>
                                                      gdK none l.head? fun x =>
                                                        gdK none (T.int? IntKind.i64 x) fun n =>
                                                          some [T.int IntKind.i64 n]
                                            else
                                              bif a0 == (21 : Int) then
                                                O
                                                  K11n25
                                                  [AV.t (T.int IntKind.i64 a1), AV.t (T.lst 1 p.fst p.snd),
                                                    AV.t (T.lst 1 p_1.fst p_1.snd), AV.own (Id.c 0),
                                                    AV.t (T.int IntKind.i64 (0 : Int))]
                                                  [Blk.sl false 1 false (List.replicate a1.toNat [T.bool false])]
                                              else
                                                bif a0 == (23 : Int) then
                                                  O
                                                    K11n33
                                                    [AV.t (T.int IntKind.i64 a3), AV.t (T.lst 1 p.fst p.snd),
                                                      AV.t (T.int IntKind.i64 (0 : Int))]
                                                    []
                                                else
                                                  bif a0 == (22 : Int) then
                                                    O
                                                      K11n38
                                                      [AV.t (T.lst 1 p.fst p.snd),
                                                        AV.t (T.lst 1 p_1.fst p_1.snd),
                                                        AV.t (T.int IntKind.i64 (IntKind.i64.wrap (a1 - (1 : Int))))]
                                                      []
                                                  else
                                                    gdK none
                                                      (O (Key.call 24)
                                                        [AV.t
                                                            (T.lst 1 false
                                                              (List.replicate a1.toNat [T.bool false]))]
                                                        [])
                                                      fun l =>
                                                      gdK none l.head? fun x =>
                                                        gdK none (T.int? IntKind.i64 x) fun n =>
                                                          some [T.int IntKind.i64 n]
                  else
                    gdK none (mkOk a1 a1) fun x =>
                      bif a0 == (16 : Int) then
                        O
                          K11n11
                          [AV.t (T.int IntKind.i64 a1), AV.t (T.lst 1 p.fst p.snd), AV.own (Id.c 0),
                            AV.t (T.int IntKind.i64 (0 : Int))]
                          [Blk.sl false 1 false (List.replicate a1.toNat [T.bool false])]
                      else
                        bif a0 == (17 : Int) then
                          bif a0 == (17 : Int) then
                            O
                              K11n18
                              [AV.t (T.int IntKind.i64 a0), AV.t (T.int IntKind.i64 a1),
                                AV.t (T.lst 1 p.fst p.snd), AV.t (T.lst 1 p.fst p.snd),
                                AV.own (Id.c 0), AV.t (T.int IntKind.i64 (0 : Int))]
                              [Blk.sl false 1 false (List.replicate a1.toNat [T.bool false])]
                          else
                            bif a0 == (20 : Int) then
                              gdK none
                                (O (Key.call 22)
                                  [AV.t (T.lst 1 p.fst p.snd), AV.t (T.lst 1 p.fst p.snd)] [])
                                fun l =>
                                gdK none l.head? fun x =>
                                  gdK none (T.lst? 1 x) fun p =>
                                    gdK none (O (Key.call 24) [AV.t (T.lst 1 p.fst p.snd)] []) fun l =>
                                      gdK none l.head? fun x =>
                                        gdK none (T.int? IntKind.i64 x) fun n => some [T.int IntKind.i64 n]
                            else
                              bif a0 == (21 : Int) then
                                O
                                  K11n25
                                  [AV.t (T.int IntKind.i64 a1), AV.t (T.lst 1 p.fst p.snd),
                                    AV.t (T.lst 1 p.fst p.snd), AV.own (Id.c 0),
                                    AV.t (T.int IntKind.i64 (0 : Int))]
                                  [Blk.sl false 1 false (List.replicate a1.toNat [T.bool false])]
                              else
                                bif a0 == (23 : Int) then
                                  O
                                    K11n33
                                    [AV.t (T.int IntKind.i64 a3), AV.t (T.lst 1 p.fst p.snd),
                                      AV.t (T.int IntKind.i64 (0 : Int))]
                                    []
                                else
                                  bif a0 == (22 : Int) then
                                    O
                                      K11n38
                                      [AV.t (T.lst 1 p.fst p.snd), AV.t (T.lst 1 p.fst p.snd),
                                        AV.t (T.int IntKind.i64 (IntKind.i64.wrap (a1 - (1 : Int))))]
                                      []
                                  else
                                    gdK none
                                      (O (Key.call 24)
                                        [AV.t (T.lst 1 false (List.replicate a1.toNat [T.bool false]))] [])
                                      fun l =>
                                      gdK none l.head? fun x =>
                                        gdK none (T.int? IntKind.i64 x) fun n => some [T.int IntKind.i64 n]
                        else
                          bif a0 == (18 : Int) then
                            bif a0 == (18 : Int) then
                              O
                                K11n18
                                [AV.t (T.int IntKind.i64 a0), AV.t (T.int IntKind.i64 a1),
                                  AV.t (T.lst 1 p.fst p.snd), AV.t (T.lst 1 p.fst p.snd),
                                  AV.own (Id.c 0), AV.t (T.int IntKind.i64 (0 : Int))]
                                [Blk.sl false 1 false (List.replicate a1.toNat [T.bool false])]
                            else
                              bif a0 == (20 : Int) then
                                gdK none
                                  (O (Key.call 22)
                                    [AV.t (T.lst 1 p.fst p.snd), AV.t (T.lst 1 p.fst p.snd)] [])
                                  fun l =>
                                  gdK none l.head? fun x =>
                                    gdK none (T.lst? 1 x) fun p =>
                                      gdK none (O (Key.call 24) [AV.t (T.lst 1 p.fst p.snd)] []) fun l =>
                                        gdK none l.head? fun x =>
                                          gdK none (T.int? IntKind.i64 x) fun n => some [T.int IntKind.i64 n]
                              else
                                bif a0 == (21 : Int) then
                                  O
                                    K11n25
                                    [AV.t (T.int IntKind.i64 a1), AV.t (T.lst 1 p.fst p.snd),
                                      AV.t (T.lst 1 p.fst p.snd), AV.own (Id.c 0),
                                      AV.t (T.int IntKind.i64 (0 : Int))]
                                    [Blk.sl false 1 false (List.replicate a1.toNat [T.bool false])]
                                else
                                  bif a0 == (23 : Int) then
                                    O
                                      K11n33
                                      [AV.t (T.int IntKind.i64 a3), AV.t (T.lst 1 p.fst p.snd),
                                        AV.t (T.int IntKind.i64 (0 : Int))]
                                      []
                                  else
                                    bif a0 == (22 : Int) then
                                      O
                                        K11n38
                                        [AV.t (T.lst 1 p.fst p.snd), AV.t (T.lst 1 p.fst p.snd),
                                          AV.t (T.int IntKind.i64 (IntKind.i64.wrap (a1 - (1 : Int))))]
                                        []
                                    else
                                      gdK none
                                        (O (Key.call 24)
                                          [AV.t (T.lst 1 false (List.replicate a1.toNat [T.bool false]))] [])
                                        fun l =>
                                        gdK none l.head? fun x =>
                                          gdK none (T.int? IntKind.i64 x) fun n => some [T.int IntKind.i64 n]
                          else
                            bif a0 == (19 : Int) then
                              O
                                K11n18
                                [AV.t (T.int IntKind.i64 a0), AV.t (T.int IntKind.i64 a1),
                                  AV.t (T.lst 1 p.fst p.snd), AV.t (T.lst 1 p.fst p.snd),
                                  AV.own (Id.c 0), AV.t (T.int IntKind.i64 (0 : Int))]
                                [Blk.sl false 1 false (List.replicate a1.toNat [T.bool false])]
                            else
                              bif a0 == (20 : Int) then
                                gdK none
                                  (O (Key.call 22)
                                    [AV.t (T.lst 1 p.fst p.snd), AV.t (T.lst 1 p.fst p.snd)] [])
                                  fun l =>
                                  gdK none l.head? fun x =>
                                    gdK none (T.lst? 1 x) fun p =>
                                      gdK none (O (Key.call 24) [AV.t (T.lst 1 p.fst p.snd)] []) fun l =>
                                        gdK none l.head? fun x =>
                                          gdK none (T.int? IntKind.i64 x) fun n => some [T.int IntKind.i64 n]
                              else
                                bif a0 == (21 : Int) then
                                  O
                                    K11n25
                                    [AV.t (T.int IntKind.i64 a1), AV.t (T.lst 1 p.fst p.snd),
                                      AV.t (T.lst 1 p.fst p.snd), AV.own (Id.c 0),
                                      AV.t (T.int IntKind.i64 (0 : Int))]
                                    [Blk.sl false 1 false (List.replicate a1.toNat [T.bool false])]
                                else
                                  bif a0 == (23 : Int) then
                                    O
                                      K11n33
                                      [AV.t (T.int IntKind.i64 a3), AV.t (T.lst 1 p.fst p.snd),
                                        AV.t (T.int IntKind.i64 (0 : Int))]
                                      []
                                  else
                                    bif a0 == (22 : Int) then
                                      O
                                        K11n38
                                        [AV.t (T.lst 1 p.fst p.snd), AV.t (T.lst 1 p.fst p.snd),
                                          AV.t (T.int IntKind.i64 (IntKind.i64.wrap (a1 - (1 : Int))))]
                                        []
                                    else
                                      gdK none
                                        (O (Key.call 24)
                                          [AV.t (T.lst 1 false (List.replicate a1.toNat [T.bool false]))] [])
                                        fun l =>
                                        gdK none l.head? fun x =>
                                          gdK none (T.int? IntKind.i64 x) fun n => some [T.int IntKind.i64 n]) := by kernel_rfl
theorem e17 (O : Orc) (a0 : Int) : stepO PROG ann O (Key.call 17) [(AV.t (T.int IntKind.i64 a0))] [] =
  (some [T.bool (bif decide (a0 ≥ (1 : Int)) then decide (a0 ≤ (8 : Int)) else false)]) := by kernel_rfl
theorem e18 (O : Orc) (a0 : Int) : stepO PROG ann O (Key.call 18) [(AV.t (T.int IntKind.i64 a0))] [] =
  (bif a0 == (15 : Int) then some [T.int IntKind.i64 (0 : Int)]
  else
    bif a0 == (16 : Int) then
      bif a0 == (16 : Int) then some [T.int IntKind.i64 (1 : Int)] else some [T.int IntKind.i64 (2 : Int)]
    else bif a0 == (23 : Int) then some [T.int IntKind.i64 (1 : Int)] else some [T.int IntKind.i64 (2 : Int)]) := by kernel_rfl
theorem e8n8 (O : Orc) (v0 : Int) (v1 : Int) (ev2 : Bool) (v2 : List (List T)) (v3 : Int) (ev33 : Bool) (v33 : List (List T)) (v34 : Int) (v35 : Int) (c0_0 : Int) (c0_1 : Int) : stepO PROG ann O K8n8 [(AV.t (T.int IntKind.i64 v0)), (AV.t (T.int IntKind.i64 v1)), (AV.t (T.lst 1 ev2 v2)), (AV.t (T.int IntKind.i64 v3)), (AV.ref (Id.c 0) 0), (AV.t (T.lst 1 ev33 v33)), (AV.t (T.int IntKind.i64 v34)), (AV.t (T.int IntKind.i64 v35))] [(Blk.box [(AV.t (T.int IntKind.i64 c0_0)), (AV.t (T.int IntKind.i64 c0_1))])] =
  (bif decide (v35 < v34) then
    gdK none (if (0 : Int) ≤ v35 ∧ v35 < (↑v33.length : Int) then some () else none) fun x =>
      gdK none v33[v35.toNat]? fun l =>
        gdK none l.head? fun x =>
          gdK none (T.int? IntKind.i64 x) fun n =>
            gdK none (O (Key.call 19) [AV.t (T.int IntKind.i64 n), AV.t (T.int IntKind.i64 v1)] []) fun l =>
              gdK none l.head? fun x =>
                gdK none x.bool? fun b =>
                  bif !b then some [T.int IntKind.i64 (0 : Int), T.int IntKind.i64 (3 : Int), T.int IntKind.i64 v35]
                  else
                    O
                      K8n8
                      [AV.t (T.int IntKind.i64 v0), AV.t (T.int IntKind.i64 v1), AV.t (T.lst 1 ev2 v2),
                        AV.t (T.int IntKind.i64 v3), AV.ref (Id.c 0) 0, AV.t (T.lst 1 ev33 v33),
                        AV.t (T.int IntKind.i64 v34), AV.t (T.int IntKind.i64 (IntKind.i64.wrap (v35 + (1 : Int))))]
                      [Blk.box [AV.t (T.int IntKind.i64 c0_0), AV.t (T.int IntKind.i64 c0_1)]]
  else
    gdK none
      (O (Key.call 20) [AV.t (T.int IntKind.i64 v0), AV.t (T.int IntKind.i64 v1), AV.t (T.int IntKind.i64 v3)] [])
      fun l =>
      gdK none l.head? fun x =>
        gdK none x.bool? fun b =>
          bif !b then some [T.int IntKind.i64 (0 : Int), T.int IntKind.i64 (5 : Int), T.int IntKind.i64 (0 : Int)]
          else
            bif v0 == (16 : Int) then
              gdK none (if (0 : Int) ≤ (0 : Int) ∧ (0 : Int) < (↑v2.length : Int) then some () else none) fun x =>
                gdK none v2[0]? fun l =>
                  gdK none l.head? fun x =>
                    gdK none (T.int? IntKind.i64 x) fun n =>
                      gdK none (if v1 < (0 : Int) then none else some ()) fun x =>
                        some
                          [T.int IntKind.i64
                              (IntKind.i64.wrap
                                (↑(BitVec.ofInt 64
                                          (IntKind.i64.wrap
                                            (↑(BitVec.ofInt 64
                                                      (if IntKind.i64.signed = true then (-1 : Int)
                                                      else IntKind.i64.max) ^^^
                                                    BitVec.ofInt 64 n).toNat :
                                              Int)) &&&
                                        BitVec.ofInt 64
                                          (IntKind.i64.wrap
                                            (IntKind.i64.wrap ((1 : Int) * (2 : Int) ^ min v1.toNat 64) -
                                              (1 : Int)))).toNat :
                                  Int)),
                            T.int IntKind.i64 (0 : Int), T.int IntKind.i64 (0 : Int)]
            else
              bif v0 == (17 : Int) then
                gdK none (if (0 : Int) ≤ (0 : Int) ∧ (0 : Int) < (↑v2.length : Int) then some () else none) fun x =>
                  gdK none v2[0]? fun l =>
                    gdK none l.head? fun x =>
                      gdK none (T.int? IntKind.i64 x) fun n =>
                        gdK none (if (0 : Int) ≤ (1 : Int) ∧ (1 : Int) < (↑v2.length : Int) then some () else none)
                          fun x =>
                          gdK none v2[1]? fun l =>
                            gdK none l.head? fun x =>
                              gdK none (T.int? IntKind.i64 x) fun n_1 =>
                                gdK none (if v1 < (0 : Int) then none else some ()) fun x =>
                                  some
                                    [T.int IntKind.i64
                                        (IntKind.i64.wrap
                                          (↑(BitVec.ofInt 64
                                                    (IntKind.i64.wrap
                                                      (↑(BitVec.ofInt 64 n &&&
                                                              BitVec.ofInt 64 n_1).toNat :
                                                        Int)) &&&
                                                  BitVec.ofInt 64
                                                    (IntKind.i64.wrap
                                                      (IntKind.i64.wrap
                                                          ((1 : Int) * (2 : Int) ^ min v1.toNat 64) -
                                                        (1 : Int)))).toNat :
                                            Int)),
                                      T.int IntKind.i64 (0 : Int), T.int IntKind.i64 (0 : Int)]
              else
                bif v0 == (18 : Int) then
                  gdK none (if (0 : Int) ≤ (0 : Int) ∧ (0 : Int) < (↑v2.length : Int) then some () else none) fun x =>
                    gdK none v2[0]? fun l =>
                      gdK none l.head? fun x =>
                        gdK none (T.int? IntKind.i64 x) fun n =>
                          gdK none (if (0 : Int) ≤ (1 : Int) ∧ (1 : Int) < (↑v2.length : Int) then some () else none)
                            fun x =>
                            gdK none v2[1]? fun l =>
                              gdK none l.head? fun x =>
                                gdK none (T.int? IntKind.i64 x) fun n_1 =>
                                  gdK none (if v1 < (0 : Int) then none else some ()) fun x =>
                                    some
                                      [T.int IntKind.i64
                                          (IntKind.i64.wrap
                                            (↑(BitVec.ofInt 64
                                                      (IntKind.i64.wrap
                                                        (↑(BitVec.ofInt 64 n |||
                                                                BitVec.ofInt 64 n_1).toNat :
                                                          Int)) &&&
                                                    BitVec.ofInt 64
                                                      (IntKind.i64.wrap
                                                        (IntKind.i64.wrap
                                                            ((1 : Int) * (2 : Int) ^ min v1.toNat 64) -
                                                          (1 : Int)))).toNat :
                                              Int)),
                                        T.int IntKind.i64 (0 : Int), T.int IntKind.i64 (0 : Int)]
                else
                  bif v0 == (19 : Int) then
                    gdK none (if (0 : Int) ≤ (0 : Int) ∧ (0 : Int) < (↑v2.length : Int) then some () else none) fun x =>
                      gdK none v2[0]? fun l =>
                        gdK none l.head? fun x =>
                          gdK none (T.int? IntKind.i64 x) fun n =>
                            gdK none (if (0 : Int) ≤ (1 : Int) ∧ (1 : Int) < (↑v2.length : Int) then some () else none)
                              fun x =>
                              gdK none v2[1]? fun l =>
                                gdK none l.head? fun x =>
                                  gdK none (T.int? IntKind.i64 x) fun n_1 =>
                                    gdK none (if v1 < (0 : Int) then none else some ()) fun x =>
                                      some
                                        [T.int IntKind.i64
                                            (IntKind.i64.wrap
                                              (↑(BitVec.ofInt 64
                                                        (IntKind.i64.wrap
                                                          (↑(BitVec.ofInt 64 n ^^^
                                                                  BitVec.ofInt 64 n_1).toNat :
                                                            Int)) &&&
                                                      BitVec.ofInt 64
                                                        (IntKind.i64.wrap
                                                          (IntKind.i64.wrap
                                                              ((1 : Int) * (2 : Int) ^ min v1.toNat 64) -
                                                            (1 : Int)))).toNat :
                                                Int)),
                                          T.int IntKind.i64 (0 : Int), T.int IntKind.i64 (0 : Int)]
                  else
                    bif v0 == (20 : Int) then
                      gdK none (if (0 : Int) ≤ (0 : Int) ∧ (0 : Int) < (↑v2.length : Int) then some () else none) fun x =>
                        gdK none v2[0]? fun l =>
                          gdK none l.head? fun x =>
                            gdK none (T.int? IntKind.i64 x) fun n =>
                              gdK none (if (0 : Int) ≤ (1 : Int) ∧ (1 : Int) < (↑v2.length : Int) then some () else none)
                                fun x =>
                                gdK none v2[1]? fun l =>
                                  gdK none l.head? fun x =>
                                    gdK none (T.int? IntKind.i64 x) fun n_1 =>
                                      gdK none (if v1 < (0 : Int) then none else some ()) fun x =>
                                        some
                                          [T.int IntKind.i64
                                              (IntKind.i64.wrap
                                                (↑(BitVec.ofInt 64 (IntKind.i64.wrap (n + n_1)) &&&
                                                        BitVec.ofInt 64
                                                          (IntKind.i64.wrap
                                                            (IntKind.i64.wrap
                                                                ((1 : Int) * (2 : Int) ^ min v1.toNat 64) -
                                                              (1 : Int)))).toNat :
                                                  Int)),
                                            T.int IntKind.i64 (0 : Int), T.int IntKind.i64 (0 : Int)]
                    else
                      bif v0 == (21 : Int) then
                        gdK none (if (0 : Int) ≤ (0 : Int) ∧ (0 : Int) < (↑v2.length : Int) then some () else none)
                          fun x =>
                          gdK none v2[0]? fun l =>
                            gdK none l.head? fun x =>
                              gdK none (T.int? IntKind.i64 x) fun n =>
                                gdK none
                                  (if (0 : Int) ≤ (1 : Int) ∧ (1 : Int) < (↑v2.length : Int) then some () else none)
                                  fun x =>
                                  gdK none v2[1]? fun l =>
                                    gdK none l.head? fun x =>
                                      gdK none (T.int? IntKind.i64 x) fun n_1 =>
                                        gdK none (if v1 < (0 : Int) then none else some ()) fun x =>
                                          some
                                            [T.int IntKind.i64
                                                (IntKind.i64.wrap
                                                  (↑(BitVec.ofInt 64 (IntKind.i64.wrap (n * n_1)) &&&
                                                          BitVec.ofInt 64
                                                            (IntKind.i64.wrap
                                                              (IntKind.i64.wrap
                                                                  ((1 : Int) * (2 : Int) ^ min v1.toNat 64) -
                                                                (1 : Int)))).toNat :
                                                    Int)),
                                              T.int IntKind.i64 (0 : Int), T.int IntKind.i64 (0 : Int)]
                      else
                        bif v0 == (23 : Int) then
                          gdK none (if (0 : Int) ≤ (0 : Int) ∧ (0 : Int) < (↑v2.length : Int) then some () else none)
                            fun x =>
                            gdK none v2[0]? fun l =>
                              gdK none l.head? fun x =>
                                gdK none (T.int? IntKind.i64 x) fun n =>
                                  gdK none (if v3 < (0 : Int) then none else some ()) fun x =>
                                    gdK none (if v1 < (0 : Int) then none else some ()) fun x =>
                                      some
                                        [T.int IntKind.i64
                                            (IntKind.i64.wrap
                                              (↑(BitVec.ofInt 64
                                                        (IntKind.i64.wrap (n * (2 : Int) ^ min v3.toNat 64)) &&&
                                                      BitVec.ofInt 64
                                                        (IntKind.i64.wrap
                                                          (IntKind.i64.wrap
                                                              ((1 : Int) * (2 : Int) ^ min v1.toNat 64) -
                                                            (1 : Int)))).toNat :
                                                Int)),
                                          T.int IntKind.i64 (0 : Int), T.int IntKind.i64 (0 : Int)]
                        else
                          bif v0 == (22 : Int) then
                            gdK none (if (0 : Int) ≤ (0 : Int) ∧ (0 : Int) < (↑v2.length : Int) then some () else none)
                              fun x =>
                              gdK none v2[0]? fun l =>
                                gdK none l.head? fun x =>
                                  gdK none (T.int? IntKind.i64 x) fun n =>
                                    gdK none
                                      (if (0 : Int) ≤ (1 : Int) ∧ (1 : Int) < (↑v2.length : Int) then some () else none)
                                      fun x =>
                                      gdK none v2[1]? fun l =>
                                        gdK none l.head? fun x =>
                                          gdK none (T.int? IntKind.i64 x) fun n_1 =>
                                            bif decide (n < n_1) then
                                              gdK none (if v1 < (0 : Int) then none else some ()) fun x =>
                                                some
                                                  [T.int IntKind.i64
                                                      (IntKind.i64.wrap
                                                        (↑(BitVec.ofInt 64 (1 : Int) &&&
                                                                BitVec.ofInt 64
                                                                  (IntKind.i64.wrap
                                                                    (IntKind.i64.wrap
                                                                        ((1 : Int) *
                                                                          (2 : Int) ^ min v1.toNat 64) -
                                                                      (1 : Int)))).toNat :
                                                          Int)),
                                                    T.int IntKind.i64 (0 : Int), T.int IntKind.i64 (0 : Int)]
                                            else
                                              gdK none (if v1 < (0 : Int) then none else some ()) fun x =>
                                                some
                                                  [T.int IntKind.i64
                                                      (IntKind.i64.wrap
                                                        (↑(BitVec.ofInt 64 (0 : Int) &&&
                                                                BitVec.ofInt 64
                                                                  (IntKind.i64.wrap
                                                                    (IntKind.i64.wrap
                                                                        ((1 : Int) *
                                                                          (2 : Int) ^ min v1.toNat 64) -
                                                                      (1 : Int)))).toNat :
                                                          Int)),
                                                    T.int IntKind.i64 (0 : Int), T.int IntKind.i64 (0 : Int)]
                          else
                            gdK none (if v1 < (0 : Int) then none else some ()) fun x =>
                              some
                                [T.int IntKind.i64
                                    (IntKind.i64.wrap
                                      (↑(BitVec.ofInt 64 v3 &&&
                                              BitVec.ofInt 64
                                                (IntKind.i64.wrap
                                                  (IntKind.i64.wrap ((1 : Int) * (2 : Int) ^ min v1.toNat 64) -
                                                    (1 : Int)))).toNat :
                                        Int)),
                                  T.int IntKind.i64 (0 : Int), T.int IntKind.i64 (0 : Int)]) := by kernel_rfl
theorem e14 (O : Orc) (a0 : Int) (a1 : Int) : stepO PROG ann O (Key.call 14) [(AV.t (T.int IntKind.i64 a0)), (AV.t (T.int IntKind.i64 a1))] [] =
  (some [T.int IntKind.i64 a0, T.int IntKind.i64 a1]) := by kernel_rfl
theorem e10n13 (O : Orc) (v0 : Int) (v1 : Int) (ev2 : Bool) (v2 : List (List T)) (v3 : Int) (v10 : Int) (c0_0 : Int) (c0_1 : Int) : stepO PROG ann O K10n13 [(AV.t (T.int IntKind.i64 v0)), (AV.t (T.int IntKind.i64 v1)), (AV.t (T.lst 1 ev2 v2)), (AV.t (T.int IntKind.i64 v3)), (AV.ref (Id.c 0) 0), (AV.t (T.int IntKind.i64 v10))] [(Blk.box [(AV.t (T.int IntKind.i64 c0_0)), (AV.t (T.int IntKind.i64 c0_1))])] =
  (bif decide (v10 < (↑v2.length : Int)) then
    gdK none (if (0 : Int) ≤ v10 ∧ v10 < (↑v2.length : Int) then some () else none) fun x =>
      gdK none v2[v10.toNat]? fun l =>
        gdK none l.head? fun x =>
          gdK none (T.int? IntKind.i64 x) fun n =>
            gdK (some !decide (n < (0 : Int))) (if (0 : Int) ≤ v10 ∧ v10 < (↑v2.length : Int) then some () else none)
              fun x =>
              gdK (some !decide (n < (0 : Int))) v2[v10.toNat]? fun l =>
                gdK (some !decide (n < (0 : Int))) l.head? fun x =>
                  gdK (some !decide (n < (0 : Int))) (T.int? IntKind.i64 x) fun n_1 =>
                    gdK (some !decide (n < (0 : Int))) (if IntKind.u64.wrap v1 < (0 : Int) then none else some ())
                      fun x =>
                      bif
                          bif decide (n < (0 : Int)) then true
                          else
                            decide
                              (n_1 ≥
                                IntKind.i64.wrap
                                  ((1 : Int) * (2 : Int) ^ min (IntKind.u64.wrap v1).toNat 64)) then
                        gdK none
                          (O (Key.call 14) [AV.t (T.int IntKind.i64 (3 : Int)), AV.t (T.int IntKind.i64 v10)] [])
                          fun l =>
                          gdK none l.head? fun x =>
                            gdK none (T.int? IntKind.i64 x) fun n =>
                              gdK none l.tail.head? fun x =>
                                gdK none (T.int? IntKind.i64 x) fun n_2 =>
                                  some [T.int IntKind.i64 n, T.int IntKind.i64 n_2]
                      else
                        O
                          K10n13
                          [AV.t (T.int IntKind.i64 v0), AV.t (T.int IntKind.i64 v1), AV.t (T.lst 1 ev2 v2),
                            AV.t (T.int IntKind.i64 v3), AV.ref (Id.c 0) 0,
                            AV.t (T.int IntKind.i64 (IntKind.i64.wrap (v10 + (1 : Int))))]
                          [Blk.box [AV.t (T.int IntKind.i64 c0_0), AV.t (T.int IntKind.i64 c0_1)]]
  else
    bif v0 == (15 : Int) then
      gdK none (if IntKind.u64.wrap v1 < (0 : Int) then none else some ()) fun x =>
        bif v0 == (23 : Int) then
          bif bif decide (v3 < (0 : Int)) then true else decide (v3 > (8 : Int)) then
            gdK none (O (Key.call 14) [AV.t (T.int IntKind.i64 (5 : Int)), AV.t (T.int IntKind.i64 (0 : Int))] [])
              fun l =>
              gdK none l.head? fun x =>
                gdK none (T.int? IntKind.i64 x) fun n =>
                  gdK none l.tail.head? fun x =>
                    gdK none (T.int? IntKind.i64 x) fun n_1 => some [T.int IntKind.i64 n, T.int IntKind.i64 n_1]
          else some [T.int IntKind.i64 (0 : Int), T.int IntKind.i64 (0 : Int)]
        else
          bif
              bif decide (v3 < (0 : Int)) then true
              else
                decide
                  (v3 >
                    IntKind.i64.wrap
                      (IntKind.i64.wrap ((1 : Int) * (2 : Int) ^ min (IntKind.u64.wrap v1).toNat 64) -
                        (1 : Int))) then
            gdK none (O (Key.call 14) [AV.t (T.int IntKind.i64 (5 : Int)), AV.t (T.int IntKind.i64 (0 : Int))] [])
              fun l =>
              gdK none l.head? fun x =>
                gdK none (T.int? IntKind.i64 x) fun n =>
                  gdK none l.tail.head? fun x =>
                    gdK none (T.int? IntKind.i64 x) fun n_1 => some [T.int IntKind.i64 n, T.int IntKind.i64 n_1]
          else some [T.int IntKind.i64 (0 : Int), T.int IntKind.i64 (0 : Int)]
    else
      bif v0 == (23 : Int) then
        bif bif decide (v3 < (0 : Int)) then true else decide (v3 > (8 : Int)) then
          gdK none (O (Key.call 14) [AV.t (T.int IntKind.i64 (5 : Int)), AV.t (T.int IntKind.i64 (0 : Int))] [])
            fun l =>
            gdK none l.head? fun x =>
              gdK none (T.int? IntKind.i64 x) fun n =>
                gdK none l.tail.head? fun x =>
                  gdK none (T.int? IntKind.i64 x) fun n_1 => some [T.int IntKind.i64 n, T.int IntKind.i64 n_1]
        else some [T.int IntKind.i64 (0 : Int), T.int IntKind.i64 (0 : Int)]
      else
        bif bif decide (v3 < (0 : Int)) then true else decide (v3 > (0 : Int)) then
          gdK none (O (Key.call 14) [AV.t (T.int IntKind.i64 (5 : Int)), AV.t (T.int IntKind.i64 (0 : Int))] [])
            fun l =>
            gdK none l.head? fun x =>
              gdK none (T.int? IntKind.i64 x) fun n =>
                gdK none l.tail.head? fun x =>
                  gdK none (T.int? IntKind.i64 x) fun n_1 => some [T.int IntKind.i64 n, T.int IntKind.i64 n_1]
        else some [T.int IntKind.i64 (0 : Int), T.int IntKind.i64 (0 : Int)]) := by kernel_rfl
theorem e21 (O : Orc) (a0 : Int) (a1 : Int) : stepO PROG ann O (Key.call 21) [(AV.t (T.int IntKind.i64 a0)), (AV.t (T.int IntKind.i64 a1))] [] =
  (O
    K21n3
    [AV.t (T.int IntKind.i64 a0), AV.t (T.int IntKind.i64 a1), AV.own (Id.c 0),
      AV.t (T.int IntKind.i64 (0 : Int))]
    [Blk.sl false 1 true []]) := by kernel_rfl
theorem e11n11 (O : Orc) (v1 : Int) (ev9 : Bool) (v9 : List (List T)) (v12 : Int) (ec0 : Bool) (c0 : List (List T)) : stepO PROG ann O K11n11 [(AV.t (T.int IntKind.i64 v1)), (AV.t (T.lst 1 ev9 v9)), (AV.own (Id.c 0)), (AV.t (T.int IntKind.i64 v12))] [(Blk.sl false 1 ec0 c0)] =
  (bif decide (v12 < v1) then
    gdK none (if (0 : Int) ≤ v12 ∧ v12 < (↑v9.length : Int) then some () else none) fun x =>
      gdK none v9[v12.toNat]? fun l =>
        gdK none l.head? fun x =>
          gdK none x.bool? fun b =>
            gdK none (if (0 : Int) ≤ v12 ∧ v12 < (↑c0.length : Int) then some () else none) fun x =>
              gdK none (storeIn v12.toNat 0 [T.bool !b] c0) fun l =>
                O
                  K11n11
                  [AV.t (T.int IntKind.i64 v1), AV.t (T.lst 1 ev9 v9), AV.own (Id.c 0),
                    AV.t (T.int IntKind.i64 (IntKind.i64.wrap (v12 + (1 : Int))))]
                  [Blk.sl false 1 ec0 l]
  else
    gdK none (O (Key.call 24) [AV.t (T.lst 1 ec0 c0)] []) fun l =>
      gdK none l.head? fun x => gdK none (T.int? IntKind.i64 x) fun n => some [T.int IntKind.i64 n]) := by kernel_rfl
theorem e22 (O : Orc) (ea0 : Bool) (a0 : List (List T)) (ea1 : Bool) (a1 : List (List T)) : stepO PROG ann O (Key.call 22) [(AV.t (T.lst 1 ea0 a0)), (AV.t (T.lst 1 ea1 a1))] [] =
  (O
    K22n4
    [AV.t (T.lst 1 ea0 a0), AV.t (T.lst 1 ea1 a1), AV.own (Id.c 0), AV.t (T.bool false),
      AV.t (T.int IntKind.i64 (0 : Int))]
    [Blk.sl false 1 true []]) := by kernel_rfl
theorem e24 (O : Orc) (ea0 : Bool) (a0 : List (List T)) : stepO PROG ann O (Key.call 24) [(AV.t (T.lst 1 ea0 a0))] [] =
  (O K24n3
    [AV.t (T.lst 1 ea0 a0), AV.t (T.int IntKind.i64 (0 : Int)),
      AV.t (T.int IntKind.i64 (IntKind.i64.wrap ((↑a0.length : Int) - (1 : Int))))]
    []) := by kernel_rfl
theorem e11n25 (O : Orc) (v1 : Int) (ev9 : Bool) (v9 : List (List T)) (ev10 : Bool) (v10 : List (List T)) (v14 : Int) (ec0 : Bool) (c0 : List (List T)) : stepO PROG ann O K11n25 [(AV.t (T.int IntKind.i64 v1)), (AV.t (T.lst 1 ev9 v9)), (AV.t (T.lst 1 ev10 v10)), (AV.own (Id.c 0)), (AV.t (T.int IntKind.i64 v14))] [(Blk.sl false 1 ec0 c0)] =
  (bif decide (v14 < v1) then
    gdK none (if (0 : Int) ≤ v14 ∧ v14 < (↑v9.length : Int) then some () else none) fun x =>
      gdK none v9[v14.toNat]? fun l =>
        gdK none l.head? fun x =>
          gdK none x.bool? fun b =>
            bif b then
              gdK none (O (Key.call 22) [AV.t (T.lst 1 ec0 c0), AV.t (T.lst 1 ev10 v10)] [])
                fun l =>
                gdK none l.head? fun x =>
                  gdK none (T.lst? 1 x) fun p =>
                    gdK none (O (Key.call 23) [AV.t (T.lst 1 ev10 v10)] []) fun l =>
                      gdK none l.head? fun x =>
                        gdK none (T.lst? 1 x) fun p_1 =>
                          O
                            K11n25
                            [AV.t (T.int IntKind.i64 v1), AV.t (T.lst 1 ev9 v9),
                              AV.t (T.lst 1 p_1.fst p_1.snd), AV.t (T.lst 1 p.fst p.snd),
                              AV.t (T.int IntKind.i64 (IntKind.i64.wrap (v14 + (1 : Int))))]
                            []
            else
              gdK none (O (Key.call 23) [AV.t (T.lst 1 ev10 v10)] []) fun l =>
                gdK none l.head? fun x =>
                  gdK none (T.lst? 1 x) fun p =>
                    O
                      K11n25
                      [AV.t (T.int IntKind.i64 v1), AV.t (T.lst 1 ev9 v9), AV.t (T.lst 1 p.fst p.snd),
                        AV.own (Id.c 0), AV.t (T.int IntKind.i64 (IntKind.i64.wrap (v14 + (1 : Int))))]
                      [Blk.sl false 1 ec0 c0]
  else
    gdK none (O (Key.call 24) [AV.t (T.lst 1 ec0 c0)] []) fun l =>
      gdK none l.head? fun x => gdK none (T.int? IntKind.i64 x) fun n => some [T.int IntKind.i64 n]) := by kernel_rfl
theorem e11n33 (O : Orc) (v3 : Int) (ev11 : Bool) (v11 : List (List T)) (v15 : Int) : stepO PROG ann O K11n33 [(AV.t (T.int IntKind.i64 v3)), (AV.t (T.lst 1 ev11 v11)), (AV.t (T.int IntKind.i64 v15))] [] =
  (bif decide (v15 < v3) then
    gdK none (O (Key.call 23) [AV.t (T.lst 1 ev11 v11)] []) fun l =>
      gdK none l.head? fun x =>
        gdK none (T.lst? 1 x) fun p =>
          O
            K11n33
            [AV.t (T.int IntKind.i64 v3), AV.t (T.lst 1 p.fst p.snd),
              AV.t (T.int IntKind.i64 (IntKind.i64.wrap (v15 + (1 : Int))))]
            []
  else
    gdK none (O (Key.call 24) [AV.t (T.lst 1 ev11 v11)] []) fun l =>
      gdK none l.head? fun x => gdK none (T.int? IntKind.i64 x) fun n => some [T.int IntKind.i64 n]) := by kernel_rfl
theorem e11n38 (O : Orc) (ev9 : Bool) (v9 : List (List T)) (ev10 : Bool) (v10 : List (List T)) (v16 : Int) : stepO PROG ann O K11n38 [(AV.t (T.lst 1 ev9 v9)), (AV.t (T.lst 1 ev10 v10)), (AV.t (T.int IntKind.i64 v16))] [] =
  (bif decide (v16 ≥ (0 : Int)) then
    gdK none (if (0 : Int) ≤ v16 ∧ v16 < (↑v9.length : Int) then some () else none) fun x =>
      gdK none v9[v16.toNat]? fun l =>
        gdK none l.head? fun x =>
          gdK none x.bool? fun b =>
            gdK none (if (0 : Int) ≤ v16 ∧ v16 < (↑v10.length : Int) then some () else none) fun x =>
              gdK none v10[v16.toNat]? fun l =>
                gdK none l.head? fun x =>
                  gdK none x.bool? fun b_1 =>
                    bif !b == b_1 then
                      gdK none (if (0 : Int) ≤ v16 ∧ v16 < (↑v10.length : Int) then some () else none) fun x =>
                        gdK none v10[v16.toNat]? fun l =>
                          gdK none l.head? fun x =>
                            gdK none x.bool? fun b =>
                              bif b then some [T.int IntKind.i64 (1 : Int)] else some [T.int IntKind.i64 (0 : Int)]
                    else
                      O
                        K11n38
                        [AV.t (T.lst 1 ev9 v9), AV.t (T.lst 1 ev10 v10),
                          AV.t (T.int IntKind.i64 (IntKind.i64.wrap (v16 - (1 : Int))))]
                        []
  else some [T.int IntKind.i64 (0 : Int)]) := by kernel_rfl
theorem e19 (O : Orc) (a0 : Int) (a1 : Int) : stepO PROG ann O (Key.call 19) [(AV.t (T.int IntKind.i64 a0)), (AV.t (T.int IntKind.i64 a1))] [] =
  (gdK (some (decide (a0 ≥ (0 : Int)))) (if a1 < (0 : Int) then none else some ()) fun x =>
    some
      [T.bool
          (bif decide (a0 ≥ (0 : Int)) then
            decide (a0 < IntKind.i64.wrap ((1 : Int) * (2 : Int) ^ min a1.toNat 64))
          else false)]) := by kernel_rfl
theorem e20 (O : Orc) (a0 : Int) (a1 : Int) (a2 : Int) : stepO PROG ann O (Key.call 20) [(AV.t (T.int IntKind.i64 a0)), (AV.t (T.int IntKind.i64 a1)), (AV.t (T.int IntKind.i64 a2))] [] =
  (bif a0 == (15 : Int) then
    gdK none (O (Key.call 19) [AV.t (T.int IntKind.i64 a2), AV.t (T.int IntKind.i64 a1)] []) fun l =>
      gdK none l.head? fun x => gdK none x.bool? fun b => some [T.bool b]
  else
    bif a0 == (23 : Int) then some [T.bool (bif decide (a2 ≥ (0 : Int)) then decide (a2 ≤ (8 : Int)) else false)]
    else some [T.bool (a2 == (0 : Int))]) := by kernel_rfl
theorem e21n3 (O : Orc) (v0 : Int) (v1 : Int) (v6 : Int) (ec0 : Bool) (c0 : List (List T)) : stepO PROG ann O K21n3 [(AV.t (T.int IntKind.i64 v0)), (AV.t (T.int IntKind.i64 v1)), (AV.own (Id.c 0)), (AV.t (T.int IntKind.i64 v6))] [(Blk.sl false 1 ec0 c0)] =
  (bif decide (v6 < v1) then
    gdK none (small (c0.length + [[T.bool (v0.tmod (2 : Int) == (1 : Int))]].length)) fun x =>
      O
        K21n3
        [AV.t (T.int IntKind.i64 (IntKind.i64.wrap (v0.tdiv (2 : Int)))), AV.t (T.int IntKind.i64 v1),
          AV.own (Id.c 0), AV.t (T.int IntKind.i64 (IntKind.i64.wrap (v6 + (1 : Int))))]
        [Blk.sl false 1 (ec0 && false) (c0 ++ [[T.bool (v0.tmod (2 : Int) == (1 : Int))]])]
  else some [T.lst 1 ec0 c0]) := by kernel_rfl
theorem e22n4 (O : Orc) (ev0 : Bool) (v0 : List (List T)) (ev1 : Bool) (v1 : List (List T)) (v6 : Bool) (v7 : Int) (ec0 : Bool) (c0 : List (List T)) : stepO PROG ann O K22n4 [(AV.t (T.lst 1 ev0 v0)), (AV.t (T.lst 1 ev1 v1)), (AV.own (Id.c 0)), (AV.t (T.bool v6)), (AV.t (T.int IntKind.i64 v7))] [(Blk.sl false 1 ec0 c0)] =
  (bif decide (v7 < (↑v0.length : Int)) then
    gdK none (if (0 : Int) ≤ v7 ∧ v7 < (↑v0.length : Int) then some () else none) fun x =>
      gdK none v0[v7.toNat]? fun l =>
        gdK none l.head? fun x =>
          gdK none x.bool? fun b =>
            gdK none (if (0 : Int) ≤ v7 ∧ v7 < (↑v1.length : Int) then some () else none) fun x =>
              gdK none v1[v7.toNat]? fun l =>
                gdK none l.head? fun x =>
                  gdK none x.bool? fun b_1 =>
                    gdK none (small (c0.length + [[T.bool !(!b == b_1) == v6]].length)) fun x =>
                      gdK none (if (0 : Int) ≤ v7 ∧ v7 < (↑v0.length : Int) then some () else none) fun x =>
                        gdK none v0[v7.toNat]? fun l =>
                          gdK none l.head? fun x =>
                            gdK none x.bool? fun b_2 =>
                              gdK (some b_2) (if (0 : Int) ≤ v7 ∧ v7 < (↑v1.length : Int) then some () else none) fun x =>
                                gdK (some b_2) v1[v7.toNat]? fun l =>
                                  gdK (some b_2) l.head? fun x =>
                                    gdK (some b_2) x.bool? fun b_3 =>
                                      gdK (some !bif b_2 then b_3 else false)
                                        (if (0 : Int) ≤ v7 ∧ v7 < (↑v0.length : Int) then some () else none) fun x =>
                                        gdK (some !bif b_2 then b_3 else false) v0[v7.toNat]? fun l =>
                                          gdK (some !bif b_2 then b_3 else false) l.head? fun x =>
                                            gdK (some !bif b_2 then b_3 else false) x.bool? fun b_4 =>
                                              gdK
                                                (some
                                                  !bif bif b_2 then b_3 else false then true
                                                    else bif b_4 then v6 else false)
                                                (if (0 : Int) ≤ v7 ∧ v7 < (↑v1.length : Int) then some () else none)
                                                fun x =>
                                                gdK
                                                  (some
                                                    !bif bif b_2 then b_3 else false then true
                                                      else bif b_4 then v6 else false)
                                                  v1[v7.toNat]? fun l =>
                                                  gdK
                                                    (some
                                                      !bif bif b_2 then b_3 else false then true
                                                        else bif b_4 then v6 else false)
                                                    l.head? fun x =>
                                                    gdK
                                                      (some
                                                        !bif bif b_2 then b_3 else false then true
                                                          else bif b_4 then v6 else false)
                                                      x.bool? fun b_5 =>
                                                      O
                                                        K22n4
                                                        [AV.t (T.lst 1 ev0 v0), AV.t (T.lst 1 ev1 v1),
                                                          AV.own (Id.c 0),
                                                          AV.t
                                                            (T.bool
                                                              (bif
                                                                  bif bif b_2 then b_3 else false then true
                                                                  else bif b_4 then v6 else false then
                                                                true
                                                              else bif b_5 then v6 else false)),
                                                          AV.t (T.int IntKind.i64 (IntKind.i64.wrap (v7 + (1 : Int))))]
                                                        [Blk.sl false 1 (ec0 && false)
                                                            (c0 ++ [[T.bool !(!b == b_1) == v6]])]
  else some [T.lst 1 ec0 c0]) := by kernel_rfl
theorem e24n3 (O : Orc) (ev0 : Bool) (v0 : List (List T)) (v3 : Int) (v4 : Int) : stepO PROG ann O K24n3 [(AV.t (T.lst 1 ev0 v0)), (AV.t (T.int IntKind.i64 v3)), (AV.t (T.int IntKind.i64 v4))] [] =
  (bif decide (v4 ≥ (0 : Int)) then
    gdK none (if (0 : Int) ≤ v4 ∧ v4 < (↑v0.length : Int) then some () else none) fun x =>
      gdK none v0[v4.toNat]? fun l =>
        gdK none l.head? fun x =>
          gdK none x.bool? fun b =>
            bif b then
              O
                K24n3
                [AV.t (T.lst 1 ev0 v0),
                  AV.t (T.int IntKind.i64 (IntKind.i64.wrap (IntKind.i64.wrap ((2 : Int) * v3) + (1 : Int)))),
                  AV.t (T.int IntKind.i64 (IntKind.i64.wrap (v4 - (1 : Int))))]
                []
            else
              O
                K24n3
                [AV.t (T.lst 1 ev0 v0), AV.t (T.int IntKind.i64 (IntKind.i64.wrap ((2 : Int) * v3))),
                  AV.t (T.int IntKind.i64 (IntKind.i64.wrap (v4 - (1 : Int))))]
                []
  else some [T.int IntKind.i64 v3]) := by kernel_rfl
theorem e23 (O : Orc) (ea0 : Bool) (a0 : List (List T)) : stepO PROG ann O (Key.call 23) [(AV.t (T.lst 1 ea0 a0))] [] =
  (gdK none (inB (0 : Int) (IntKind.i64.wrap ((↑a0.length : Int) - (1 : Int))) (↑a0.length : Int)) fun x =>
    gdK none (small (1 + (sub (0 : Int) (IntKind.i64.wrap ((↑a0.length : Int) - (1 : Int))) a0).length)) fun x =>
      some
        [T.lst 1 false ([T.bool false] :: sub (0 : Int) (IntKind.i64.wrap ((↑a0.length : Int) - (1 : Int))) a0)]) := by kernel_rfl
theorem e11n25s2 (O : Orc) (v1 : Int) (ev9 : Bool) (v9 : List (List T)) (ev10 : Bool) (v10 : List (List T)) (ev11 : Bool) (v11 : List (List T)) (v14 : Int) : stepO PROG ann O K11n25 [(AV.t (T.int IntKind.i64 v1)), (AV.t (T.lst 1 ev9 v9)), (AV.t (T.lst 1 ev10 v10)), (AV.t (T.lst 1 ev11 v11)), (AV.t (T.int IntKind.i64 v14))] [] =
  (bif decide (v14 < v1) then
    gdK none (if (0 : Int) ≤ v14 ∧ v14 < (↑v9.length : Int) then some () else none) fun x =>
      gdK none v9[v14.toNat]? fun l =>
        gdK none l.head? fun x =>
          gdK none x.bool? fun b =>
            bif b then
              gdK none (O (Key.call 22) [AV.t (T.lst 1 ev11 v11), AV.t (T.lst 1 ev10 v10)] [])
                fun l =>
                gdK none l.head? fun x =>
                  gdK none (T.lst? 1 x) fun p =>
                    gdK none (O (Key.call 23) [AV.t (T.lst 1 ev10 v10)] []) fun l =>
                      gdK none l.head? fun x =>
                        gdK none (T.lst? 1 x) fun p_1 =>
                          O
                            K11n25
                            [AV.t (T.int IntKind.i64 v1), AV.t (T.lst 1 ev9 v9),
                              AV.t (T.lst 1 p_1.fst p_1.snd), AV.t (T.lst 1 p.fst p.snd),
                              AV.t (T.int IntKind.i64 (IntKind.i64.wrap (v14 + (1 : Int))))]
                            []
            else
              gdK none (O (Key.call 23) [AV.t (T.lst 1 ev10 v10)] []) fun l =>
                gdK none l.head? fun x =>
                  gdK none (T.lst? 1 x) fun p =>
                    O
                      K11n25
                      [AV.t (T.int IntKind.i64 v1), AV.t (T.lst 1 ev9 v9), AV.t (T.lst 1 p.fst p.snd),
                        AV.t (T.lst 1 ev11 v11), AV.t (T.int IntKind.i64 (IntKind.i64.wrap (v14 + (1 : Int))))]
                      []
  else
    gdK none (O (Key.call 24) [AV.t (T.lst 1 ev11 v11)] []) fun l =>
      gdK none l.head? fun x => gdK none (T.int? IntKind.i64 x) fun n => some [T.int IntKind.i64 n]) := by kernel_rfl
theorem e4 (O : Orc) (a0 a1 : Int) (ea2 : Bool) (a2 : List (List T)) : stepO PROG ann O (Key.call 4) [AV.t (T.int IntKind.i64 a0), AV.t (T.int IntKind.i64 a1), AV.t (T.lst 1 ea2 a2)] [] =
  (gdK none (O (Key.call 9) [] []) fun l =>
    gdK none l.head? fun x =>
      gdK none x.bool? fun b =>
        bif !b then some [T.bool false]
        else
          gdK none (O (Key.call 12) [AV.t (T.int IntKind.i64 a0), AV.t (T.int IntKind.i64 a1)] []) fun l =>
            gdK none l.head? fun x =>
              gdK none (T.lst? 1 x) fun p =>
                gdK none l.tail.head? fun x =>
                  gdK none (T.int? IntKind.i64 x) fun n =>
                    gdK none l.tail.tail.head? fun x =>
                      gdK none (T.int? IntKind.i64 x) fun n_1 =>
                        gdK none (O (Key.call 13) [AV.t (T.lst 1 ea2 a2)] []) fun l =>
                          gdK none l.head? fun x =>
                            gdK none (T.int? IntKind.i64 x) fun n_2 =>
                              gdK none l.tail.head? fun x =>
                                gdK none (T.int? IntKind.i64 x) fun n_3 =>
                                  gdK none l.tail.tail.head? fun x =>
                                    gdK none (T.int? IntKind.i64 x) fun n_4 =>
                                      bif bif decide (a1 < (1 : Int)) then true else decide (a1 > (8 : Int)) then
                                        gdK none
                                          (O (Key.call 14)
                                            [AV.t (T.int IntKind.i64 (3 : Int)), AV.t (T.int IntKind.i64 (-1 : Int))] [])
                                          fun l =>
                                          gdK none l.head? fun x =>
                                            gdK none (T.int? IntKind.i64 x) fun n_5 =>
                                              gdK none l.tail.head? fun x =>
                                                gdK none (T.int? IntKind.i64 x) fun n_6 =>
                                                  bif
                                                      bif !(n == n_5 && (n_1 == n_6 && true)) then true
                                                      else decide ((↑p.snd.length : Int) > (0 : Int)) then
                                                    some [T.bool false]
                                                  else
                                                    bif
                                                        bif decide ((↑a2.length : Int) < (1 : Int)) then true
                                                        else decide ((↑a2.length : Int) > (8 : Int)) then
                                                      gdK none
                                                        (O (Key.call 14)
                                                          [AV.t (T.int IntKind.i64 (9 : Int)),
                                                            AV.t (T.int IntKind.i64 (0 : Int))]
                                                          [])
                                                        fun l =>
                                                        gdK none l.head? fun x =>
                                                          gdK none (T.int? IntKind.i64 x) fun n =>
                                                            gdK none l.tail.head? fun x =>
                                                              gdK none (T.int? IntKind.i64 x) fun n_7 =>
                                                                some
                                                                  [T.bool
                                                                      (bif n_3 == n && (n_4 == n_7 && true) then
                                                                        n_2 == (0 : Int)
                                                                      else false)]
                                                    else
                                                      gdK none
                                                        (O (Key.call 12)
                                                          [AV.t (T.int IntKind.i64 n_2),
                                                            AV.t (T.int IntKind.i64 (↑a2.length : Int))]
                                                          [])
                                                        fun l =>
                                                        gdK none l.head? fun x =>
                                                          gdK none (T.lst? 1 x) fun p =>
                                                            gdK none l.tail.head? fun x =>
                                                              gdK none (T.int? IntKind.i64 x) fun n =>
                                                                gdK none l.tail.tail.head? fun x =>
                                                                  gdK none (T.int? IntKind.i64 x) fun n_7 =>
                                                                    bif
                                                                        bif
                                                                            bif !n_3 == (0 : Int) then true
                                                                            else !n == (0 : Int) then
                                                                          true
                                                                        else
                                                                          !(↑p.snd.length : Int) ==
                                                                              (↑a2.length : Int) then
                                                                      some [T.bool false]
                                                                    else
                                                                      O
                                                                        K4n21
                                                                        [AV.t (T.lst 1 ea2 a2),
                                                                          AV.t (T.lst 1 p.fst p.snd),
                                                                          AV.t (T.int IntKind.i64 (0 : Int))]
                                                                        []
                                      else
                                        gdK (some !decide (a0 < (0 : Int)))
                                          (if IntKind.u64.wrap a1 < (0 : Int) then none else some ()) fun x =>
                                          bif
                                              bif decide (a0 < (0 : Int)) then true
                                              else
                                                decide
                                                  (a0 ≥
                                                    IntKind.i64.wrap
                                                      ((1 : Int) *
                                                        (2 : Int) ^ min (IntKind.u64.wrap a1).toNat 64)) then
                                            gdK none
                                              (O (Key.call 14)
                                                [AV.t (T.int IntKind.i64 (3 : Int)), AV.t (T.int IntKind.i64 (0 : Int))]
                                                [])
                                              fun l =>
                                              gdK none l.head? fun x =>
                                                gdK none (T.int? IntKind.i64 x) fun n_5 =>
                                                  gdK none l.tail.head? fun x =>
                                                    gdK none (T.int? IntKind.i64 x) fun n_6 =>
                                                      bif
                                                          bif !(n == n_5 && (n_1 == n_6 && true)) then true
                                                          else decide ((↑p.snd.length : Int) > (0 : Int)) then
                                                        some [T.bool false]
                                                      else
                                                        bif
                                                            bif decide ((↑a2.length : Int) < (1 : Int)) then true
                                                            else decide ((↑a2.length : Int) > (8 : Int)) then
                                                          gdK none
                                                            (O (Key.call 14)
                                                              [AV.t (T.int IntKind.i64 (9 : Int)),
                                                                AV.t (T.int IntKind.i64 (0 : Int))]
                                                              [])
                                                            fun l =>
                                                            gdK none l.head? fun x =>
                                                              gdK none (T.int? IntKind.i64 x) fun n =>
                                                                gdK none l.tail.head? fun x =>
                                                                  gdK none (T.int? IntKind.i64 x) fun n_7 =>
                                                                    some
                                                                      [T.bool
                                                                          (bif n_3 == n && (n_4 == n_7 && true) then
                                                                            n_2 == (0 : Int)
                                                                          else false)]
                                                        else
                                                          gdK none
                                                            (O (Key.call 12)
                                                              [AV.t (T.int IntKind.i64 n_2),
                                                                AV.t (T.int IntKind.i64 (↑a2.length : Int))]
                                                              [])
                                                            fun l =>
                                                            gdK none l.head? fun x =>
                                                              gdK none (T.lst? 1 x) fun p =>
                                                                gdK none l.tail.head? fun x =>
                                                                  gdK none (T.int? IntKind.i64 x) fun n =>
                                                                    gdK none l.tail.tail.head? fun x =>
                                                                      gdK none (T.int? IntKind.i64 x) fun n_7 =>
                                                                        bif
                                                                            bif
                                                                                bif !n_3 == (0 : Int) then true
                                                                                else !n == (0 : Int) then
                                                                              true
                                                                            else
                                                                              !(↑p.snd.length : Int) ==
                                                                                  (↑a2.length : Int) then
                                                                          some [T.bool false]
                                                                        else
                                                                          O
                                                                            K4n21
                                                                            [AV.t (T.lst 1 ea2 a2),
                                                                              AV.t (T.lst 1 p.fst p.snd),
                                                                              AV.t (T.int IntKind.i64 (0 : Int))]
                                                                            []
                                          else
                                            gdK none (O (Key.call 13) [AV.t (T.lst 1 p.fst p.snd)] [])
                                              fun l =>
                                              gdK none l.head? fun x =>
                                                gdK none (T.int? IntKind.i64 x) fun n_5 =>
                                                  gdK none l.tail.head? fun x =>
                                                    gdK none (T.int? IntKind.i64 x) fun n_6 =>
                                                      gdK none l.tail.tail.head? fun x =>
                                                        gdK none (T.int? IntKind.i64 x) fun n_7 =>
                                                          bif
                                                              bif
                                                                  bif
                                                                      bif !n == (0 : Int) then true
                                                                      else !n_6 == (0 : Int) then
                                                                    true
                                                                  else !n_5 == a0 then
                                                                true
                                                              else !(↑p.snd.length : Int) == a1 then
                                                            some [T.bool false]
                                                          else
                                                            bif
                                                                bif decide ((↑a2.length : Int) < (1 : Int)) then true
                                                                else decide ((↑a2.length : Int) > (8 : Int)) then
                                                              gdK none
                                                                (O (Key.call 14)
                                                                  [AV.t (T.int IntKind.i64 (9 : Int)),
                                                                    AV.t (T.int IntKind.i64 (0 : Int))]
                                                                  [])
                                                                fun l =>
                                                                gdK none l.head? fun x =>
                                                                  gdK none (T.int? IntKind.i64 x) fun n =>
                                                                    gdK none l.tail.head? fun x =>
                                                                      gdK none (T.int? IntKind.i64 x) fun n_8 =>
                                                                        some
                                                                          [T.bool
                                                                              (bif n_3 == n && (n_4 == n_8 && true) then
                                                                                n_2 == (0 : Int)
                                                                              else false)]
                                                            else
                                                              gdK none
                                                                (O (Key.call 12)
                                                                  [AV.t (T.int IntKind.i64 n_2),
                                                                    AV.t (T.int IntKind.i64 (↑a2.length : Int))]
                                                                  [])
                                                                fun l =>
                                                                gdK none l.head? fun x =>
                                                                  gdK none (T.lst? 1 x) fun p =>
                                                                    gdK none l.tail.head? fun x =>
                                                                      gdK none (T.int? IntKind.i64 x) fun n =>
                                                                        gdK none l.tail.tail.head? fun x =>
                                                                          gdK none (T.int? IntKind.i64 x) fun n_8 =>
                                                                            bif
                                                                                bif
                                                                                    bif !n_3 == (0 : Int) then true
                                                                                    else !n == (0 : Int) then
                                                                                  true
                                                                                else
                                                                                  !(↑p.snd.length : Int) ==
                                                                                      (↑a2.length : Int) then
                                                                              some [T.bool false]
                                                                            else
                                                                              O
                                                                                K4n21
                                                                                [AV.t (T.lst 1 ea2 a2),
                                                                                  AV.t (T.lst 1 p.fst p.snd),
                                                                                  AV.t (T.int IntKind.i64 (0 : Int))]
                                                                                []) := by kernel_rfl
theorem e12 (O : Orc) (a0 : Int) (a1 : Int) : stepO PROG ann O (Key.call 12) [(AV.t (T.int IntKind.i64 a0)), (AV.t (T.int IntKind.i64 a1))] [] =
  (gdK none (O (Key.call 17) [AV.t (T.int IntKind.i64 a1)] []) fun l =>
    gdK none l.head? fun x =>
      gdK none x.bool? fun b =>
        bif !b then some [T.emp true, T.int IntKind.i64 (3 : Int), T.int IntKind.i64 (-1 : Int)]
        else
          gdK none (O (Key.call 19) [AV.t (T.int IntKind.i64 a0), AV.t (T.int IntKind.i64 a1)] []) fun l =>
            gdK none l.head? fun x =>
              gdK none x.bool? fun b =>
                bif !b then some [T.emp true, T.int IntKind.i64 (3 : Int), T.int IntKind.i64 (0 : Int)]
                else
                  O
                    K12n7
                    [AV.t (T.int IntKind.i64 a0), AV.ref (Id.c 0) 0, AV.own (Id.c 1),
                      AV.t (T.int IntKind.i64 a1), AV.t (T.int IntKind.i64 (0 : Int))]
                    [Blk.box [AV.t (T.int IntKind.i64 (0 : Int)), AV.t (T.int IntKind.i64 (0 : Int))],
                      Blk.sl false 1 true []]) := by kernel_rfl
theorem e13 (O : Orc) (ea0 : Bool) (a0 : List (List T)) : stepO PROG ann O (Key.call 13) [(AV.t (T.lst 1 ea0 a0))] [] =
  (gdK none (O (Key.call 17) [AV.t (T.int IntKind.i64 (↑a0.length : Int))] []) fun l =>
    gdK none l.head? fun x =>
      gdK none x.bool? fun b =>
        bif !b then some [T.int IntKind.i64 (0 : Int), T.int IntKind.i64 (9 : Int), T.int IntKind.i64 (0 : Int)]
        else
          O
            K13n5
            [AV.ref (Id.c 0) 0, AV.t (T.int IntKind.i64 (0 : Int)), AV.t (T.lst 1 ea0 a0),
              AV.t (T.int IntKind.i64 (↑a0.length : Int)), AV.t (T.int IntKind.i64 (0 : Int))]
            [Blk.box [AV.t (T.int IntKind.i64 (0 : Int)), AV.t (T.int IntKind.i64 (0 : Int))]]) := by kernel_rfl
theorem e4n21 (O : Orc) (ev2 : Bool) (v2 : List (List T)) (ev14 : Bool) (v14 : List (List T)) (v16 : Int) : stepO PROG ann O K4n21 [(AV.t (T.lst 1 ev2 v2)), (AV.t (T.lst 1 ev14 v14)), (AV.t (T.int IntKind.i64 v16))] [] =
  (bif decide (v16 < (↑v2.length : Int)) then
    gdK none (if (0 : Int) ≤ v16 ∧ v16 < (↑v14.length : Int) then some () else none) fun x =>
      gdK none v14[v16.toNat]? fun l =>
        gdK none l.head? fun x =>
          gdK none x.bool? fun b =>
            gdK none (if (0 : Int) ≤ v16 ∧ v16 < (↑v2.length : Int) then some () else none) fun x =>
              gdK none v2[v16.toNat]? fun l =>
                gdK none l.head? fun x =>
                  gdK none x.bool? fun b_1 =>
                    bif !b == b_1 then some [T.bool false]
                    else
                      O
                        K4n21
                        [AV.t (T.lst 1 ev2 v2), AV.t (T.lst 1 ev14 v14),
                          AV.t (T.int IntKind.i64 (IntKind.i64.wrap (v16 + (1 : Int))))]
                        []
  else some [T.bool true]) := by kernel_rfl
theorem e12n7 (O : Orc) (v0 : Int) (v19 : Int) (v20 : Int) (c0_0 : Int) (c0_1 : Int) (ec1 : Bool) (c1 : List (List T)) : stepO PROG ann O K12n7 [(AV.t (T.int IntKind.i64 v0)), (AV.ref (Id.c 0) 0), (AV.own (Id.c 1)), (AV.t (T.int IntKind.i64 v19)), (AV.t (T.int IntKind.i64 v20))] [(Blk.box [(AV.t (T.int IntKind.i64 c0_0)), (AV.t (T.int IntKind.i64 c0_1))]), (Blk.sl false 1 ec1 c1)] =
  (bif decide (v20 < v19) then
    gdK none (if v20 < (0 : Int) then none else some ()) fun x =>
      gdK none
        (small
          (c1.length +
            [[T.bool
                    (IntKind.i64.wrap
                        (↑(BitVec.ofInt 64 (v0.fdiv ((2 : Int) ^ min v20.toNat 64)) &&&
                                BitVec.ofInt 64 (1 : Int)).toNat :
                          Int) ==
                      (1 : Int))]].length))
        fun x =>
        O
          K12n7
          [AV.t (T.int IntKind.i64 v0), AV.ref (Id.c 0) 0, AV.own (Id.c 1),
            AV.t (T.int IntKind.i64 v19), AV.t (T.int IntKind.i64 (IntKind.i64.wrap (v20 + (1 : Int))))]
          [Blk.box [AV.t (T.int IntKind.i64 c0_0), AV.t (T.int IntKind.i64 c0_1)],
            Blk.sl false 1 (ec1 && false)
              (c1 ++
                [[T.bool
                      (IntKind.i64.wrap
                          (↑(BitVec.ofInt 64 (v0.fdiv ((2 : Int) ^ min v20.toNat 64)) &&&
                                  BitVec.ofInt 64 (1 : Int)).toNat :
                            Int) ==
                        (1 : Int))]])]
  else some [T.lst 1 ec1 c1, T.int IntKind.i64 (0 : Int), T.int IntKind.i64 (0 : Int)]) := by kernel_rfl
theorem e13n5 (O : Orc) (v4 : Int) (ev12 : Bool) (v12 : List (List T)) (v13 : Int) (v14 : Int) (c0_0 : Int) (c0_1 : Int) : stepO PROG ann O K13n5 [(AV.ref (Id.c 0) 0), (AV.t (T.int IntKind.i64 v4)), (AV.t (T.lst 1 ev12 v12)), (AV.t (T.int IntKind.i64 v13)), (AV.t (T.int IntKind.i64 v14))] [(Blk.box [(AV.t (T.int IntKind.i64 c0_0)), (AV.t (T.int IntKind.i64 c0_1))])] =
  (bif decide (v14 < v13) then
    gdK none (if (0 : Int) ≤ v14 ∧ v14 < (↑v12.length : Int) then some () else none) fun x =>
      gdK none v12[v14.toNat]? fun l =>
        gdK none l.head? fun x =>
          gdK none x.bool? fun b =>
            bif b then
              gdK none (if v14 < (0 : Int) then none else some ()) fun x =>
                O
                  K13n5
                  [AV.ref (Id.c 0) 0,
                    AV.t
                      (T.int IntKind.i64
                        (IntKind.i64.wrap
                          (↑(BitVec.ofInt 64 v4 |||
                                  BitVec.ofInt 64
                                    (IntKind.i64.wrap ((1 : Int) * (2 : Int) ^ min v14.toNat 64))).toNat :
                            Int))),
                    AV.t (T.lst 1 ev12 v12), AV.t (T.int IntKind.i64 v13),
                    AV.t (T.int IntKind.i64 (IntKind.i64.wrap (v14 + (1 : Int))))]
                  [Blk.box [AV.t (T.int IntKind.i64 c0_0), AV.t (T.int IntKind.i64 c0_1)]]
            else
              O
                K13n5
                [AV.ref (Id.c 0) 0, AV.t (T.int IntKind.i64 v4), AV.t (T.lst 1 ev12 v12),
                  AV.t (T.int IntKind.i64 v13), AV.t (T.int IntKind.i64 (IntKind.i64.wrap (v14 + (1 : Int))))]
                [Blk.box [AV.t (T.int IntKind.i64 c0_0), AV.t (T.int IntKind.i64 c0_1)]]
  else some [T.int IntKind.i64 v4, T.int IntKind.i64 (0 : Int), T.int IntKind.i64 (0 : Int)]) := by kernel_rfl
theorem e11n18 (O : Orc) (v0 : Int) (v1 : Int) (ev9 : Bool) (v9 : List (List T)) (ev10 : Bool) (v10 : List (List T)) (v13 : Int) (ec0 : Bool) (c0 : List (List T)) : stepO PROG ann O K11n18 [(AV.t (T.int IntKind.i64 v0)), (AV.t (T.int IntKind.i64 v1)), (AV.t (T.lst 1 ev9 v9)), (AV.t (T.lst 1 ev10 v10)), (AV.own (Id.c 0)), (AV.t (T.int IntKind.i64 v13))] [(Blk.sl false 1 ec0 c0)] =
  (bif decide (v13 < v1) then
    gdK (some (v0 == (17 : Int))) (if (0 : Int) ≤ v13 ∧ v13 < (↑v9.length : Int) then some () else none) fun x =>
      gdK (some (v0 == (17 : Int))) v9[v13.toNat]? fun l =>
        gdK (some (v0 == (17 : Int))) l.head? fun x =>
          gdK (some (v0 == (17 : Int))) x.bool? fun b =>
            gdK (some (bif v0 == (17 : Int) then b else false))
              (if (0 : Int) ≤ v13 ∧ v13 < (↑v10.length : Int) then some () else none) fun x =>
              gdK (some (bif v0 == (17 : Int) then b else false)) v10[v13.toNat]? fun l =>
                gdK (some (bif v0 == (17 : Int) then b else false)) l.head? fun x =>
                  gdK (some (bif v0 == (17 : Int) then b else false)) x.bool? fun b_1 =>
                    gdK
                      (some
                        (bif !bif bif v0 == (17 : Int) then b else false then b_1 else false then v0 == (18 : Int)
                        else false))
                      (if (0 : Int) ≤ v13 ∧ v13 < (↑v9.length : Int) then some () else none) fun x =>
                      gdK
                        (some
                          (bif !bif bif v0 == (17 : Int) then b else false then b_1 else false then v0 == (18 : Int)
                          else false))
                        v9[v13.toNat]? fun l =>
                        gdK
                          (some
                            (bif !bif bif v0 == (17 : Int) then b else false then b_1 else false then v0 == (18 : Int)
                            else false))
                          l.head? fun x =>
                          gdK
                            (some
                              (bif !bif bif v0 == (17 : Int) then b else false then b_1 else false then v0 == (18 : Int)
                              else false))
                            x.bool? fun b_2 =>
                            gdK
                              (some
                                (bif
                                    bif !bif bif v0 == (17 : Int) then b else false then b_1 else false then
                                      v0 == (18 : Int)
                                    else false then
                                  !b_2
                                else false))
                              (if (0 : Int) ≤ v13 ∧ v13 < (↑v10.length : Int) then some () else none) fun x =>
                              gdK
                                (some
                                  (bif
                                      bif !bif bif v0 == (17 : Int) then b else false then b_1 else false then
                                        v0 == (18 : Int)
                                      else false then
                                    !b_2
                                  else false))
                                v10[v13.toNat]? fun l =>
                                gdK
                                  (some
                                    (bif
                                        bif !bif bif v0 == (17 : Int) then b else false then b_1 else false then
                                          v0 == (18 : Int)
                                        else false then
                                      !b_2
                                    else false))
                                  l.head? fun x =>
                                  gdK
                                    (some
                                      (bif
                                          bif !bif bif v0 == (17 : Int) then b else false then b_1 else false then
                                            v0 == (18 : Int)
                                          else false then
                                        !b_2
                                      else false))
                                    x.bool? fun b_3 =>
                                    gdK
                                      (some
                                        (bif
                                            !bif bif bif v0 == (17 : Int) then b else false then b_1 else false then true
                                              else bif v0 == (18 : Int) then bif b_2 then true else b_3 else false then
                                          v0 == (19 : Int)
                                        else false))
                                      (if (0 : Int) ≤ v13 ∧ v13 < (↑v9.length : Int) then some () else none) fun x =>
                                      gdK
                                        (some
                                          (bif
                                              !bif bif bif v0 == (17 : Int) then b else false then b_1 else false then
                                                  true
                                                else bif v0 == (18 : Int) then bif b_2 then true else b_3 else false then
                                            v0 == (19 : Int)
                                          else false))
                                        v9[v13.toNat]? fun l =>
                                        gdK
                                          (some
                                            (bif
                                                !bif bif bif v0 == (17 : Int) then b else false then b_1 else false then
                                                    true
                                                  else
                                                    bif v0 == (18 : Int) then bif b_2 then true else b_3 else false then
                                              v0 == (19 : Int)
                                            else false))
                                          l.head? fun x =>
                                          gdK
                                            (some
                                              (bif
                                                  !bif bif bif v0 == (17 : Int) then b else false then b_1 else false then
                                                      true
                                                    else
                                                      bif v0 == (18 : Int) then bif b_2 then true else b_3 else false then
                                                v0 == (19 : Int)
                                              else false))
                                            x.bool? fun b_4 =>
                                            gdK
                                              (some
                                                (bif
                                                    !bif
                                                          bif bif v0 == (17 : Int) then b else false then b_1
                                                          else false then
                                                        true
                                                      else
                                                        bif v0 == (18 : Int) then bif b_2 then true else b_3
                                                        else false then
                                                  v0 == (19 : Int)
                                                else false))
                                              (if (0 : Int) ≤ v13 ∧ v13 < (↑v10.length : Int) then some () else none)
                                              fun x =>
                                              gdK
                                                (some
                                                  (bif
                                                      !bif
                                                            bif bif v0 == (17 : Int) then b else false then b_1
                                                            else false then
                                                          true
                                                        else
                                                          bif v0 == (18 : Int) then bif b_2 then true else b_3
                                                          else false then
                                                    v0 == (19 : Int)
                                                  else false))
                                                v10[v13.toNat]? fun l =>
                                                gdK
                                                  (some
                                                    (bif
                                                        !bif
                                                              bif bif v0 == (17 : Int) then b else false then b_1
                                                              else false then
                                                            true
                                                          else
                                                            bif v0 == (18 : Int) then bif b_2 then true else b_3
                                                            else false then
                                                      v0 == (19 : Int)
                                                    else false))
                                                  l.head? fun x =>
                                                  gdK
                                                    (some
                                                      (bif
                                                          !bif
                                                                bif bif v0 == (17 : Int) then b else false then b_1
                                                                else false then
                                                              true
                                                            else
                                                              bif v0 == (18 : Int) then bif b_2 then true else b_3
                                                              else false then
                                                        v0 == (19 : Int)
                                                      else false))
                                                    x.bool? fun b_5 =>
                                                    gdK none
                                                      (if (0 : Int) ≤ v13 ∧ v13 < (↑c0.length : Int) then some ()
                                                      else none)
                                                      fun x =>
                                                      gdK none
                                                        (storeIn v13.toNat 0
                                                          [T.bool
                                                              (bif
                                                                  bif
                                                                      bif bif v0 == (17 : Int) then b else false then b_1
                                                                      else false then
                                                                    true
                                                                  else
                                                                    bif v0 == (18 : Int) then bif b_2 then true else b_3
                                                                    else false then
                                                                true
                                                              else bif v0 == (19 : Int) then !b_4 == b_5 else false)]
                                                          c0)
                                                        fun l =>
                                                        O
                                                          K11n18
                                                          [AV.t (T.int IntKind.i64 v0), AV.t (T.int IntKind.i64 v1),
                                                            AV.t (T.lst 1 ev9 v9),
                                                            AV.t (T.lst 1 ev10 v10), AV.own (Id.c 0),
                                                            AV.t (T.int IntKind.i64 (IntKind.i64.wrap (v13 + (1 : Int))))]
                                                          [Blk.sl false 1 ec0 l]
  else
    gdK none (O (Key.call 24) [AV.t (T.lst 1 ec0 c0)] []) fun l =>
      gdK none l.head? fun x => gdK none (T.int? IntKind.i64 x) fun n => some [T.int IntKind.i64 n]) := by kernel_rfl
theorem e5 (O : Orc) (a0 a1 a2 a3 : Int) : stepO PROG ann O (Key.call 5) [AV.t (T.int IntKind.i64 a0), AV.t (T.int IntKind.i64 a1), AV.t (T.int IntKind.i64 a2), AV.t (T.int IntKind.i64 a3)] [] =
  (gdK none (O (Key.call 9) [] []) fun l =>
    gdK none l.head? fun x =>
      gdK none x.bool? fun b =>
        bif !b then some [T.bool false]
        else
          gdK
            (some
              !bif
                    bif
                        bif bif decide (a0 < (1 : Int)) then true else decide (a0 > (8 : Int)) then true
                        else decide (a1 < (0 : Int)) then
                      true
                    else decide (a2 < (0 : Int)) then
                  true
                else decide (a3 < (0 : Int)))
            (if IntKind.u64.wrap a0 < (0 : Int) then none else some ()) fun x =>
            gdK
              (some
                !bif
                      bif
                          bif
                              bif bif decide (a0 < (1 : Int)) then true else decide (a0 > (8 : Int)) then true
                              else decide (a1 < (0 : Int)) then
                            true
                          else decide (a2 < (0 : Int)) then
                        true
                      else decide (a3 < (0 : Int)) then
                    true
                  else
                    decide (a1 ≥ IntKind.i64.wrap ((1 : Int) * (2 : Int) ^ min (IntKind.u64.wrap a0).toNat 64)))
              (if IntKind.u64.wrap a0 < (0 : Int) then none else some ()) fun x =>
              gdK
                (some
                  !bif
                        bif
                            bif
                                bif
                                    bif bif decide (a0 < (1 : Int)) then true else decide (a0 > (8 : Int)) then true
                                    else decide (a1 < (0 : Int)) then
                                  true
                                else decide (a2 < (0 : Int)) then
                              true
                            else decide (a3 < (0 : Int)) then
                          true
                        else
                          decide
                            (a1 ≥
                              IntKind.i64.wrap ((1 : Int) * (2 : Int) ^ min (IntKind.u64.wrap a0).toNat 64)) then
                      true
                    else
                      decide (a2 ≥ IntKind.i64.wrap ((1 : Int) * (2 : Int) ^ min (IntKind.u64.wrap a0).toNat 64)))
                (if IntKind.u64.wrap a0 < (0 : Int) then none else some ()) fun x =>
                bif
                    bif
                        bif
                            bif
                                bif
                                    bif
                                        bif bif decide (a0 < (1 : Int)) then true else decide (a0 > (8 : Int)) then true
                                        else decide (a1 < (0 : Int)) then
                                      true
                                    else decide (a2 < (0 : Int)) then
                                  true
                                else decide (a3 < (0 : Int)) then
                              true
                            else
                              decide
                                (a1 ≥
                                  IntKind.i64.wrap
                                    ((1 : Int) * (2 : Int) ^ min (IntKind.u64.wrap a0).toNat 64)) then
                          true
                        else
                          decide
                            (a2 ≥
                              IntKind.i64.wrap ((1 : Int) * (2 : Int) ^ min (IntKind.u64.wrap a0).toNat 64)) then
                      true
                    else
                      decide
                        (a3 ≥ IntKind.i64.wrap ((1 : Int) * (2 : Int) ^ min (IntKind.u64.wrap a0).toNat 64)) then
                  some [T.bool true]
                else
                  gdK none
                    (O (Key.call 15)
                      [AV.t (T.int IntKind.i64 (20 : Int)), AV.t (T.int IntKind.i64 a0), AV.t (T.int IntKind.i64 a1),
                        AV.t (T.int IntKind.i64 a2)]
                      [])
                    fun l =>
                    gdK none l.head? fun x =>
                      gdK none (T.int? IntKind.i64 x) fun n =>
                        gdK none
                          (O (Key.call 15)
                            [AV.t (T.int IntKind.i64 (20 : Int)), AV.t (T.int IntKind.i64 a0),
                              AV.t (T.int IntKind.i64 a2), AV.t (T.int IntKind.i64 a3)]
                            [])
                          fun l =>
                          gdK none l.head? fun x =>
                            gdK none (T.int? IntKind.i64 x) fun n_1 =>
                              gdK none
                                (O (Key.call 15)
                                  [AV.t (T.int IntKind.i64 (21 : Int)), AV.t (T.int IntKind.i64 a0),
                                    AV.t (T.int IntKind.i64 a1), AV.t (T.int IntKind.i64 a2)]
                                  [])
                                fun l =>
                                gdK none l.head? fun x =>
                                  gdK none (T.int? IntKind.i64 x) fun n_2 =>
                                    gdK none
                                      (O (Key.call 15)
                                        [AV.t (T.int IntKind.i64 (21 : Int)), AV.t (T.int IntKind.i64 a0),
                                          AV.t (T.int IntKind.i64 a2), AV.t (T.int IntKind.i64 a3)]
                                        [])
                                      fun l =>
                                      gdK none l.head? fun x =>
                                        gdK none (T.int? IntKind.i64 x) fun n_3 =>
                                          gdK none
                                            (O (Key.call 15)
                                              [AV.t (T.int IntKind.i64 (21 : Int)), AV.t (T.int IntKind.i64 a0),
                                                AV.t (T.int IntKind.i64 a1), AV.t (T.int IntKind.i64 a3)]
                                              [])
                                            fun l =>
                                            gdK none l.head? fun x =>
                                              gdK none (T.int? IntKind.i64 x) fun n_4 =>
                                                gdK none
                                                  (O (Key.call 8)
                                                    [AV.t (T.int IntKind.i64 (16 : Int)), AV.t (T.int IntKind.i64 a0),
                                                      AV.t (T.lst 1 false [[T.int IntKind.i64 a1]]),
                                                      AV.t (T.int IntKind.i64 (0 : Int))]
                                                    [])
                                                  fun l =>
                                                  gdK none l.head? fun x =>
                                                    gdK none (T.int? IntKind.i64 x) fun n_5 =>
                                                      gdK none l.tail.head? fun x =>
                                                        gdK none (T.int? IntKind.i64 x) fun n_6 =>
                                                          gdK none l.tail.tail.head? fun x =>
                                                            gdK none (T.int? IntKind.i64 x) fun n_7 =>
                                                              gdK none
                                                                (askO (some !!n_6 == (0 : Int))
                                                                  (O (Key.call 15)
                                                                    [AV.t (T.int IntKind.i64 (20 : Int)),
                                                                      AV.t (T.int IntKind.i64 a0),
                                                                      AV.t (T.int IntKind.i64 a2),
                                                                      AV.t (T.int IntKind.i64 a1)]
                                                                    []))
                                                                fun l =>
                                                                gdK (some !!n_6 == (0 : Int)) l.head? fun x =>
                                                                  gdK (some !!n_6 == (0 : Int)) (T.int? IntKind.i64 x)
                                                                    fun n_8 =>
                                                                    gdK none
                                                                      (askO
                                                                        (some
                                                                          !bif !n_6 == (0 : Int) then true else !n == n_8)
                                                                        (O (Key.call 15)
                                                                          [AV.t (T.int IntKind.i64 (21 : Int)),
                                                                            AV.t (T.int IntKind.i64 a0),
                                                                            AV.t (T.int IntKind.i64 a2),
                                                                            AV.t (T.int IntKind.i64 a1)]
                                                                          []))
                                                                      fun l =>
                                                                      gdK
                                                                        (some
                                                                          !bif !n_6 == (0 : Int) then true else !n == n_8)
                                                                        l.head? fun x =>
                                                                        gdK
                                                                          (some
                                                                            !bif !n_6 == (0 : Int) then true
                                                                              else !n == n_8)
                                                                          (T.int? IntKind.i64 x) fun n_9 =>
                                                                          bif
                                                                              bif
                                                                                  bif !n_6 == (0 : Int) then true
                                                                                  else !n == n_8 then
                                                                                true
                                                                              else !n_2 == n_9 then
                                                                            some [T.bool false]
                                                                          else
                                                                            gdK none
                                                                              (O (Key.call 15)
                                                                                [AV.t (T.int IntKind.i64 (20 : Int)),
                                                                                  AV.t (T.int IntKind.i64 a0),
                                                                                  AV.t (T.int IntKind.i64 n),
                                                                                  AV.t (T.int IntKind.i64 a3)]
                                                                                [])
                                                                              fun l =>
                                                                              gdK none l.head? fun x =>
                                                                                gdK none (T.int? IntKind.i64 x) fun n =>
                                                                                  gdK none
                                                                                    (O (Key.call 15)
                                                                                      [AV.t
                                                                                          (T.int IntKind.i64 (20 : Int)),
                                                                                        AV.t (T.int IntKind.i64 a0),
                                                                                        AV.t (T.int IntKind.i64 a1),
                                                                                        AV.t (T.int IntKind.i64 n_1)]
                                                                                      [])
                                                                                    fun l =>
                                                                                    gdK none l.head? fun x =>
                                                                                      gdK none (T.int? IntKind.i64 x)
                                                                                        fun n_10 =>
                                                                                        gdK none
                                                                                          (askO (some !!n == n_10)
                                                                                            (O (Key.call 15)
                                                                                              [AV.t
                                                                                                  (T.int IntKind.i64
                                                                                                    (21 : Int)),
                                                                                                AV.t
                                                                                                  (T.int IntKind.i64 a0),
                                                                                                AV.t
                                                                                                  (T.int IntKind.i64 n_2),
                                                                                                AV.t
                                                                                                  (T.int IntKind.i64 a3)]
                                                                                              []))
                                                                                          fun l =>
                                                                                          gdK (some !!n == n_10) l.head?
                                                                                            fun x =>
                                                                                            gdK (some !!n == n_10)
                                                                                              (T.int? IntKind.i64 x)
                                                                                              fun n_11 =>
                                                                                              gdK none
                                                                                                (askO (some !!n == n_10)
                                                                                                  (O (Key.call 15)
                                                                                                    [AV.t
                                                                                                        (T.int IntKind.i64
                                                                                                          (21 : Int)),
                                                                                                      AV.t
                                                                                                        (T.int IntKind.i64
                                                                                                          a0),
                                                                                                      AV.t
                                                                                                        (T.int IntKind.i64
                                                                                                          a1),
                                                                                                      AV.t
                                                                                                        (T.int IntKind.i64
                                                                                                          n_3)]
                                                                                                    []))
                                                                                                fun l =>
                                                                                                gdK (some !!n == n_10)
                                                                                                  l.head? fun x =>
                                                                                                  gdK (some !!n == n_10)
                                                                                                    (T.int? IntKind.i64 x)
                                                                                                    fun n_12 =>
                                                                                                    bif
                                                                                                        bif
                                                                                                            !n ==
                                                                                                                n_10 then
                                                                                                          true
                                                                                                        else
                                                                                                          !n_11 ==
                                                                                                              n_12 then
                                                                                                      some [T.bool false]
                                                                                                    else
                                                                                                      gdK none
                                                                                                        (O
                                                                                                          (Key.call
                                                                                                            15)
                                                                                                          [AV.t
                                                                                                              (T.int
                                                                                                                IntKind.i64
                                                                                                                (21 :
                                                                                                                  Int)),
                                                                                                            AV.t
                                                                                                              (T.int
                                                                                                                IntKind.i64
                                                                                                                a0),
                                                                                                            AV.t
                                                                                                              (T.int
                                                                                                                IntKind.i64
                                                                                                                a1),
                                                                                                            AV.t
                                                                                                              (T.int
                                                                                                                IntKind.i64
                                                                                                                n_1)]
                                                                                                          [])
                                                                                                        fun l =>
                                                                                                        gdK none l.head?
                                                                                                          fun x =>
                                                                                                          gdK none
                                                                                                            (T.int?
                                                                                                              IntKind.i64
                                                                                                              x)
                                                                                                            fun n =>
                                                                                                            gdK none
                                                                                                              (O
                                                                                                                (Key.call
                                                                                                                  (15 :
                                                                                                                    Nat))
                                                                                                                [AV.t
                                                                                                                    (T.int
                                                                                                                      IntKind.i64
                                                                                                                      (20 :
                                                                                                                        Int)),
                                                                                                                  AV.t
                                                                                                                    (T.int
                                                                                                                      IntKind.i64
                                                                                                                      a0),
                                                                                                                  AV.t
                                                                                                                    (T.int
                                                                                                                      IntKind.i64
                                                                                                                      n_2),
                                                                                                                  AV.t
                                                                                                                    (T.int
                                                                                                                      IntKind.i64
                                                                                                                      n_4)]
                                                                                                                [])
                                                                                                              fun l =>
                                                                                                              gdK none
                                                                                                                l.head?
                                                                                                                fun x =>
                                                                                                                gdK none
                                                                                                                  (T.int?
                                                                                                                    IntKind.i64
                                                                                                                    x)
                                                                                                                  fun
                                                                                                                    n_13 =>
                                                                                                                  gdK none
                                                                                                                    (askO
                                                                                                                      (some
                                                                                                                        (n ==
                                                                                                                          n_13))
                                                                                                                      (O
                                                                                                                        (Key.call
                                                                                                                          (15 :
                                                                                                                            Nat))
                                                                                                                        [AV.t
                                                                                                                            (T.int
                                                                                                                              IntKind.i64
                                                                                                                              (20 :
                                                                                                                                Int)),
                                                                                                                          AV.t
                                                                                                                            (T.int
                                                                                                                              IntKind.i64
                                                                                                                              a0),
                                                                                                                          AV.t
                                                                                                                            (T.int
                                                                                                                              IntKind.i64
                                                                                                                              a1),
                                                                                                                          AV.t
                                                                                                                            (T.int
                                                                                                                              IntKind.i64
                                                                                                                              n_5)]
                                                                                                                        []))
                                                                                                                    fun
                                                                                                                      l =>
                                                                                                                    gdK
                                                                                                                      (some
                                                                                                                        (n ==
                                                                                                                          n_13))
                                                                                                                      l.head?
                                                                                                                      fun
                                                                                                                        x =>
                                                                                                                      gdK
                                                                                                                        (some
                                                                                                                          (n ==
                                                                                                                            n_13))
                                                                                                                        (T.int?
                                                                                                                          IntKind.i64
                                                                                                                          x)
                                                                                                                        fun
                                                                                                                          n_14 =>
                                                                                                                        gdK
                                                                                                                          none
                                                                                                                          (askO
                                                                                                                            (some
                                                                                                                              (n ==
                                                                                                                                n_13))
                                                                                                                            (O
                                                                                                                              (Key.call
                                                                                                                                (15 :
                                                                                                                                  Nat))
                                                                                                                              [AV.t
                                                                                                                                  (T.int
                                                                                                                                    IntKind.i64
                                                                                                                                    (20 :
                                                                                                                                      Int)),
                                                                                                                                AV.t
                                                                                                                                  (T.int
                                                                                                                                    IntKind.i64
                                                                                                                                    a0),
                                                                                                                                AV.t
                                                                                                                                  (T.int
                                                                                                                                    IntKind.i64
                                                                                                                                    n_14),
                                                                                                                                AV.t
                                                                                                                                  (T.int
                                                                                                                                    IntKind.i64
                                                                                                                                    (1 :
                                                                                                                                      Int))]
                                                                                                                              []))
                                                                                                                          fun
                                                                                                                            l =>
                                                                                                                          gdK
                                                                                                                            (some
                                                                                                                              (n ==
                                                                                                                                n_13))
                                                                                                                            l.head?
                                                                                                                            fun
                                                                                                                              x =>
                                                                                                                            gdK
                                                                                                                              (some
                                                                                                                                (n ==
                                                                                                                                  n_13))
                                                                                                                              (T.int?
                                                                                                                                IntKind.i64
                                                                                                                                x)
                                                                                                                              fun
                                                                                                                                n_15 =>
                                                                                                                              some
                                                                                                                                [T.bool
                                                                                                                                    (bif
                                                                                                                                        n ==
                                                                                                                                          n_13 then
                                                                                                                                      n_15 ==
                                                                                                                                        (0 :
                                                                                                                                          Int)
                                                                                                                                    else
                                                                                                                                      false)]) := by kernel_rfl
theorem e6 (O : Orc) (a0 a1 a2 : Int) : stepO PROG ann O (Key.call 6) [AV.t (T.int IntKind.i64 a0), AV.t (T.int IntKind.i64 a1), AV.t (T.int IntKind.i64 a2)] [] =
  (gdK none (O (Key.call 9) [] []) fun l =>
    gdK none l.head? fun x =>
      gdK none x.bool? fun b =>
        bif !b then some [T.bool false]
        else
          gdK
            (some
              !bif
                    bif bif decide (a0 < (1 : Int)) then true else decide (a0 > (8 : Int)) then true
                    else decide (a1 < (0 : Int)) then
                  true
                else decide (a2 < (0 : Int)))
            (if IntKind.u64.wrap a0 < (0 : Int) then none else some ()) fun x =>
            gdK
              (some
                !bif
                      bif
                          bif bif decide (a0 < (1 : Int)) then true else decide (a0 > (8 : Int)) then true
                          else decide (a1 < (0 : Int)) then
                        true
                      else decide (a2 < (0 : Int)) then
                    true
                  else
                    decide (a1 ≥ IntKind.i64.wrap ((1 : Int) * (2 : Int) ^ min (IntKind.u64.wrap a0).toNat 64)))
              (if IntKind.u64.wrap a0 < (0 : Int) then none else some ()) fun x =>
              bif
                  bif
                      bif
                          bif
                              bif bif decide (a0 < (1 : Int)) then true else decide (a0 > (8 : Int)) then true
                              else decide (a1 < (0 : Int)) then
                            true
                          else decide (a2 < (0 : Int)) then
                        true
                      else
                        decide
                          (a1 ≥
                            IntKind.i64.wrap ((1 : Int) * (2 : Int) ^ min (IntKind.u64.wrap a0).toNat 64)) then
                    true
                  else
                    decide
                      (a2 ≥ IntKind.i64.wrap ((1 : Int) * (2 : Int) ^ min (IntKind.u64.wrap a0).toNat 64)) then
                some [T.bool true]
              else
                gdK none
                  (O (Key.call 8)
                    [AV.t (T.int IntKind.i64 (16 : Int)), AV.t (T.int IntKind.i64 a0),
                      AV.t (T.lst 1 false [[T.int IntKind.i64 a1]]), AV.t (T.int IntKind.i64 (0 : Int))]
                    [])
                  fun l =>
                  gdK none l.head? fun x =>
                    gdK none (T.int? IntKind.i64 x) fun n =>
                      gdK none l.tail.head? fun x =>
                        gdK none (T.int? IntKind.i64 x) fun n_1 =>
                          gdK none l.tail.tail.head? fun x =>
                            gdK none (T.int? IntKind.i64 x) fun n_2 =>
                              gdK none
                                (O (Key.call 8)
                                  [AV.t (T.int IntKind.i64 (16 : Int)), AV.t (T.int IntKind.i64 a0),
                                    AV.t (T.lst 1 false [[T.int IntKind.i64 a2]]),
                                    AV.t (T.int IntKind.i64 (0 : Int))]
                                  [])
                                fun l =>
                                gdK none l.head? fun x =>
                                  gdK none (T.int? IntKind.i64 x) fun n_3 =>
                                    gdK none l.tail.head? fun x =>
                                      gdK none (T.int? IntKind.i64 x) fun n_4 =>
                                        gdK none l.tail.tail.head? fun x =>
                                          gdK none (T.int? IntKind.i64 x) fun n_5 =>
                                            gdK none
                                              (O (Key.call 15)
                                                [AV.t (T.int IntKind.i64 (17 : Int)), AV.t (T.int IntKind.i64 a0),
                                                  AV.t (T.int IntKind.i64 a1), AV.t (T.int IntKind.i64 a2)]
                                                [])
                                              fun l =>
                                              gdK none l.head? fun x =>
                                                gdK none (T.int? IntKind.i64 x) fun n_6 =>
                                                  gdK none
                                                    (O (Key.call 8)
                                                      [AV.t (T.int IntKind.i64 (16 : Int)), AV.t (T.int IntKind.i64 a0),
                                                        AV.t (T.lst 1 false [[T.int IntKind.i64 n_6]]),
                                                        AV.t (T.int IntKind.i64 (0 : Int))]
                                                      [])
                                                    fun l =>
                                                    gdK none l.head? fun x =>
                                                      gdK none (T.int? IntKind.i64 x) fun n_7 =>
                                                        gdK none l.tail.head? fun x =>
                                                          gdK none (T.int? IntKind.i64 x) fun n_8 =>
                                                            gdK none l.tail.tail.head? fun x =>
                                                              gdK none (T.int? IntKind.i64 x) fun n_9 =>
                                                                gdK none
                                                                  (O (Key.call 8)
                                                                    [AV.t (T.int IntKind.i64 (23 : Int)),
                                                                      AV.t (T.int IntKind.i64 a0),
                                                                      AV.t
                                                                        (T.lst 1 false [[T.int IntKind.i64 n_6]]),
                                                                      AV.t (T.int IntKind.i64 (1 : Int))]
                                                                    [])
                                                                  fun l =>
                                                                  gdK none l.head? fun x =>
                                                                    gdK none (T.int? IntKind.i64 x) fun n_10 =>
                                                                      gdK none l.tail.head? fun x =>
                                                                        gdK none (T.int? IntKind.i64 x) fun n_11 =>
                                                                          gdK none l.tail.tail.head? fun x =>
                                                                            gdK none (T.int? IntKind.i64 x) fun n_12 =>
                                                                              gdK none
                                                                                (askO
                                                                                  (some
                                                                                    !bif
                                                                                          bif
                                                                                              bif !n_1 == (0 : Int) then
                                                                                                true
                                                                                              else !n_4 == (0 : Int) then
                                                                                            true
                                                                                          else !n_8 == (0 : Int) then
                                                                                        true
                                                                                      else !n_11 == (0 : Int))
                                                                                  (O (Key.call 15)
                                                                                    [AV.t (T.int IntKind.i64 (18 : Int)),
                                                                                      AV.t (T.int IntKind.i64 a0),
                                                                                      AV.t (T.int IntKind.i64 n),
                                                                                      AV.t (T.int IntKind.i64 n_3)]
                                                                                    []))
                                                                                fun l =>
                                                                                gdK
                                                                                  (some
                                                                                    !bif
                                                                                          bif
                                                                                              bif !n_1 == (0 : Int) then
                                                                                                true
                                                                                              else !n_4 == (0 : Int) then
                                                                                            true
                                                                                          else !n_8 == (0 : Int) then
                                                                                        true
                                                                                      else !n_11 == (0 : Int))
                                                                                  l.head? fun x =>
                                                                                  gdK
                                                                                    (some
                                                                                      !bif
                                                                                            bif
                                                                                                bif !n_1 == (0 : Int) then
                                                                                                  true
                                                                                                else
                                                                                                  !n_4 == (0 : Int) then
                                                                                              true
                                                                                            else !n_8 == (0 : Int) then
                                                                                          true
                                                                                        else !n_11 == (0 : Int))
                                                                                    (T.int? IntKind.i64 x) fun n =>
                                                                                    bif
                                                                                        bif
                                                                                            bif
                                                                                                bif
                                                                                                    bif
                                                                                                        !n_1 ==
                                                                                                            (0 : Int) then
                                                                                                      true
                                                                                                    else
                                                                                                      !n_4 ==
                                                                                                          (0 : Int) then
                                                                                                  true
                                                                                                else
                                                                                                  !n_8 == (0 : Int) then
                                                                                              true
                                                                                            else !n_11 == (0 : Int) then
                                                                                          true
                                                                                        else !n_7 == n then
                                                                                      some [T.bool false]
                                                                                    else
                                                                                      gdK none
                                                                                        (O (Key.call 15)
                                                                                          [AV.t
                                                                                              (T.int IntKind.i64
                                                                                                (20 : Int)),
                                                                                            AV.t (T.int IntKind.i64 a0),
                                                                                            AV.t (T.int IntKind.i64 a1),
                                                                                            AV.t (T.int IntKind.i64 a2)]
                                                                                          [])
                                                                                        fun l =>
                                                                                        gdK none l.head? fun x =>
                                                                                          gdK none (T.int? IntKind.i64 x)
                                                                                            fun n =>
                                                                                            gdK none
                                                                                              (O (Key.call 15)
                                                                                                [AV.t
                                                                                                    (T.int IntKind.i64
                                                                                                      (19 : Int)),
                                                                                                  AV.t
                                                                                                    (T.int IntKind.i64
                                                                                                      a0),
                                                                                                  AV.t
                                                                                                    (T.int IntKind.i64
                                                                                                      a1),
                                                                                                  AV.t
                                                                                                    (T.int IntKind.i64
                                                                                                      a2)]
                                                                                                [])
                                                                                              fun l =>
                                                                                              gdK none l.head? fun x =>
                                                                                                gdK none
                                                                                                  (T.int? IntKind.i64 x)
                                                                                                  fun n_13 =>
                                                                                                  gdK none
                                                                                                    (O
                                                                                                      (Key.call
                                                                                                        15)
                                                                                                      [AV.t
                                                                                                          (T.int
                                                                                                            IntKind.i64
                                                                                                            (20 : Int)),
                                                                                                        AV.t
                                                                                                          (T.int
                                                                                                            IntKind.i64
                                                                                                            a0),
                                                                                                        AV.t
                                                                                                          (T.int
                                                                                                            IntKind.i64
                                                                                                            n_13),
                                                                                                        AV.t
                                                                                                          (T.int
                                                                                                            IntKind.i64
                                                                                                            n_10)]
                                                                                                      [])
                                                                                                    fun l =>
                                                                                                    gdK none l.head?
                                                                                                      fun x =>
                                                                                                      gdK none
                                                                                                        (T.int?
                                                                                                          IntKind.i64 x)
                                                                                                        fun n_14 =>
                                                                                                        bif
                                                                                                            !n ==
                                                                                                                n_14 then
                                                                                                          some
                                                                                                            [T.bool false]
                                                                                                        else
                                                                                                          gdK none
                                                                                                            (O
                                                                                                              (Key.call
                                                                                                                (15 :
                                                                                                                  Nat))
                                                                                                              [AV.t
                                                                                                                  (T.int
                                                                                                                    IntKind.i64
                                                                                                                    (22 :
                                                                                                                      Int)),
                                                                                                                AV.t
                                                                                                                  (T.int
                                                                                                                    IntKind.i64
                                                                                                                    a0),
                                                                                                                AV.t
                                                                                                                  (T.int
                                                                                                                    IntKind.i64
                                                                                                                    a1),
                                                                                                                AV.t
                                                                                                                  (T.int
                                                                                                                    IntKind.i64
                                                                                                                    a2)]
                                                                                                              [])
                                                                                                            fun l =>
                                                                                                            gdK none
                                                                                                              l.head?
                                                                                                              fun x =>
                                                                                                              gdK none
                                                                                                                (T.int?
                                                                                                                  IntKind.i64
                                                                                                                  x)
                                                                                                                fun n =>
                                                                                                                gdK none
                                                                                                                  (O
                                                                                                                    (Key.call
                                                                                                                      (15 :
                                                                                                                        Nat))
                                                                                                                    [AV.t
                                                                                                                        (T.int
                                                                                                                          IntKind.i64
                                                                                                                          (22 :
                                                                                                                            Int)),
                                                                                                                      AV.t
                                                                                                                        (T.int
                                                                                                                          IntKind.i64
                                                                                                                          a0),
                                                                                                                      AV.t
                                                                                                                        (T.int
                                                                                                                          IntKind.i64
                                                                                                                          a2),
                                                                                                                      AV.t
                                                                                                                        (T.int
                                                                                                                          IntKind.i64
                                                                                                                          a1)]
                                                                                                                    [])
                                                                                                                  fun l =>
                                                                                                                  gdK none
                                                                                                                    l.head?
                                                                                                                    fun
                                                                                                                      x =>
                                                                                                                    gdK
                                                                                                                      none
                                                                                                                      (T.int?
                                                                                                                        IntKind.i64
                                                                                                                        x)
                                                                                                                      fun
                                                                                                                        n_15 =>
                                                                                                                      gdK
                                                                                                                        none
                                                                                                                        (askO
                                                                                                                          (some
                                                                                                                            (bif
                                                                                                                                !IntKind.i64.wrap
                                                                                                                                      (n +
                                                                                                                                        n_15) ==
                                                                                                                                    (1 :
                                                                                                                                      Int) then
                                                                                                                              a1 ==
                                                                                                                                a2
                                                                                                                            else
                                                                                                                              false))
                                                                                                                          (O
                                                                                                                            (Key.call
                                                                                                                              (15 :
                                                                                                                                Nat))
                                                                                                                            [AV.t
                                                                                                                                (T.int
                                                                                                                                  IntKind.i64
                                                                                                                                  (22 :
                                                                                                                                    Int)),
                                                                                                                              AV.t
                                                                                                                                (T.int
                                                                                                                                  IntKind.i64
                                                                                                                                  a0),
                                                                                                                              AV.t
                                                                                                                                (T.int
                                                                                                                                  IntKind.i64
                                                                                                                                  a1),
                                                                                                                              AV.t
                                                                                                                                (T.int
                                                                                                                                  IntKind.i64
                                                                                                                                  a2)]
                                                                                                                            []))
                                                                                                                        fun
                                                                                                                          l =>
                                                                                                                        gdK
                                                                                                                          (some
                                                                                                                            (bif
                                                                                                                                !IntKind.i64.wrap
                                                                                                                                      (n +
                                                                                                                                        n_15) ==
                                                                                                                                    (1 :
                                                                                                                                      Int) then
                                                                                                                              a1 ==
                                                                                                                                a2
                                                                                                                            else
                                                                                                                              false))
                                                                                                                          l.head?
                                                                                                                          fun
                                                                                                                            x =>
                                                                                                                          gdK
                                                                                                                            (some
                                                                                                                              (bif
                                                                                                                                  !IntKind.i64.wrap
                                                                                                                                        (n +
                                                                                                                                          n_15) ==
                                                                                                                                      (1 :
                                                                                                                                        Int) then
                                                                                                                                a1 ==
                                                                                                                                  a2
                                                                                                                              else
                                                                                                                                false))
                                                                                                                            (T.int?
                                                                                                                              IntKind.i64
                                                                                                                              x)
                                                                                                                            fun
                                                                                                                              n_16 =>
                                                                                                                            some
                                                                                                                              [T.bool
                                                                                                                                  (bif
                                                                                                                                      IntKind.i64.wrap
                                                                                                                                          (n +
                                                                                                                                            n_15) ==
                                                                                                                                        (1 :
                                                                                                                                          Int) then
                                                                                                                                    true
                                                                                                                                  else
                                                                                                                                    bif
                                                                                                                                        a1 ==
                                                                                                                                          a2 then
                                                                                                                                      n_16 ==
                                                                                                                                        (0 :
                                                                                                                                          Int)
                                                                                                                                    else
                                                                                                                                      false)]) := by kernel_rfl
theorem e15 (O : Orc) (a0 a1 a2 a3 : Int) : stepO PROG ann O (Key.call 15) [AV.t (T.int IntKind.i64 a0), AV.t (T.int IntKind.i64 a1), AV.t (T.int IntKind.i64 a2), AV.t (T.int IntKind.i64 a3)] [] =
  (gdK none
    (O (Key.call 8)
      [AV.t (T.int IntKind.i64 a0), AV.t (T.int IntKind.i64 a1),
        AV.t (T.lst 1 false [[T.int IntKind.i64 a2], [T.int IntKind.i64 a3]]), AV.t (T.int IntKind.i64 (0 : Int))]
      [])
    fun l =>
    gdK none l.head? fun x =>
      gdK none (T.int? IntKind.i64 x) fun n =>
        gdK none l.tail.head? fun x =>
          gdK none (T.int? IntKind.i64 x) fun n_1 =>
            gdK none l.tail.tail.head? fun x =>
              gdK none (T.int? IntKind.i64 x) fun n_2 =>
                bif !n_1 == (0 : Int) then some [T.int IntKind.i64 (-1 : Int)] else some [T.int IntKind.i64 n]) := by kernel_rfl
end Go.Aev.Gen
