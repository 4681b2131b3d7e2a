/-
  The equations of schedules.
-/
import Derived.Test.YtnfclphlpdbbpaaAevGlue
import Derived.Test.YtnfclphlpdbbpaaChecked
import Derived.KernelRfl
set_option linter.unusedSimpArgs false
set_option linter.unusedVariables false
namespace Go.Aev.Gen
open Go Go.Aev
noncomputable abbrev PROG := Go.Proofs.Try.prog
def ann : Ann := {
  live := (fun f r => match f, r with
    | 6, 9 => some [(0, none), (1, none), (2, none), (7, none), (8, none), (10, none), (11, none)]
    | 10, 6 => some [(0, none), (1, none), (4, none), (5, none)]
    | 10, 12 => some [(0, none), (1, none), (4, none), (7, none)]
    | 12, 2 => some [(0, none), (1, none), (2, none), (7, none)]
    | 12, 7 => some [(0, none), (1, none), (2, none), (7, none), (8, none)]
    | 12, 13 => some [(1, none), (2, none), (9, none)]
    | 13, 3 => some [(0, none), (1, none), (5, none), (6, none)]
    | 14, 5 => some [(0, none), (1, none), (5, none), (6, none), (7, none), (8, none)]
    | 14, 8 => some [(0, none), (1, none), (5, none), (6, none), (7, none)]
    | 14, 12 => some [(0, none), (1, none), (5, none), (6, none), (7, none), (10, none)]
    | 14, 17 => some [(0, none), (1, none), (5, none), (6, none), (7, none), (10, none), (11, none)]
    | 14, 21 => some [(0, none), (1, none), (5, none), (6, none), (7, none), (12, none), (13, none)]
    | 15, 7 => some [(0, none), (1, none), (5, none), (7, none), (28, none), (29, none), (30, none)]
    | 15, 13 => some [(0, none), (1, none), (5, none), (7, none), (44, none), (45, none), (46, none)]
    | 15, 18 => some [(0, none), (1, none), (5, none), (7, none), (11, none), (12, none), (44, none), (45, none), (46, none), (61, none), (62, none), (63, none)]
    | 16, 6 => some [(0, none), (1, none), (4, none), (19, none), (20, none), (21, none)]
    | 16, 12 => some [(0, none), (4, none), (57, none), (58, none), (59, none)]
    | 19, 6 => some [(0, some 2000003), (75, none), (76, none), (77, none)]
    | 20, 3 => some [(0, none), (2, none), (7, none), (8, none)]
    | 20, 6 => some [(0, none), (2, none), (7, none), (8, none), (9, none)]
    | 20, 13 => some [(0, none), (7, none), (12, some 1), (13, none)]
    | 20, 17 => some [(0, none), (7, none), (12, some 1), (14, none)]
    | 20, 21 => some [(0, none), (7, none), (12, some 1), (14, none), (15, none), (16, none)]
    | 24, 3 => some [(0, none), (4, some 1), (13, none), (14, none), (15, none)]
    | 24, 8 => some [(0, none), (4, some 1), (30, none), (31, none)]
    | 24, 11 => some [(0, none), (4, some 1), (7, none), (30, none), (31, none), (36, none), (37, none), (38, none)]
    | 25, 3 => some [(1, none), (5, none), (11, none), (12, none), (13, none)]
    | 26, 2 => some [(0, none), (1, none), (14, none), (15, none), (16, none)]
    | 26, 5 => some [(0, none), (1, none), (7, none), (8, none), (14, none), (15, none), (16, none), (26, none), (27, none), (28, none)]
    | 27, 2 => some [(0, none), (1, none), (7, none), (8, none)]
    | _, _ => none),
  join := (fun _ _ => none),
  sig := (fun f => match f with
    | 18 => some ⟨[.own 3], []⟩
    | _ => none),
  bref := (fun f => match f with
    | 19 => some [true]
    | 24 => some [true]
    | _ => none),
  deep := (fun f => match f with
    | 25 => true
    | 26 => true
    | _ => false),
  bsig := (fun f _ => match f with
    | 19 => ⟨[], [.box [.t (.l 3), .own 3, .f .b, .f (.i .i64), .t (.l 1)], .dead]⟩
    | 24 => ⟨[.t (.l 1), .f .b], [.box [.t (.l 3), .own 3, .f .b, .f (.i .i64), .t (.l 1)], .dead]⟩
    | _ => ⟨[], []⟩) }
theorem hm : PROG.follows .mixedOrders = true := by kernel_rfl
noncomputable abbrev K6n9 : Key := nodeKey PROG 6 true 9 [(0, none), (1, none), (2, none), (7, none), (8, none), (10, none), (11, none)] (0, 0)
noncomputable abbrev K15n7 : Key := nodeKey PROG 15 true 7 [(0, none), (1, none), (5, none), (7, none), (28, none), (29, none), (30, none)] (0, 0)
noncomputable abbrev K16n6 : Key := nodeKey PROG 16 true 6 [(0, none), (1, none), (4, none), (19, none), (20, none), (21, none)] (0, 0)
noncomputable abbrev K10n6 : Key := nodeKey PROG 10 true 6 [(0, none), (1, none), (4, none), (5, none)] (0, 0)
noncomputable abbrev K15n13 : Key := nodeKey PROG 15 true 13 [(0, none), (1, none), (5, none), (7, none), (44, none), (45, none), (46, none)] (0, 0)
noncomputable abbrev K16n12 : Key := nodeKey PROG 16 true 12 [(0, none), (4, none), (57, none), (58, none), (59, none)] (0, 0)
noncomputable abbrev K10n12 : Key := nodeKey PROG 10 true 12 [(0, none), (1, none), (4, none), (7, none)] (0, 0)
noncomputable abbrev K12n2 : Key := nodeKey PROG 12 true 2 [(0, none), (1, none), (2, none), (7, none)] (0, 0)
noncomputable abbrev K15n18 : Key := nodeKey PROG 15 true 18 [(0, none), (1, none), (5, none), (7, none), (11, none), (12, none), (44, none), (45, none), (46, none), (61, none), (62, none), (63, none)] (0, 0)
noncomputable abbrev K12n7 : Key := nodeKey PROG 12 true 7 [(0, none), (1, none), (2, none), (7, none), (8, none)] (0, 0)
noncomputable abbrev K12n13 : Key := nodeKey PROG 12 true 13 [(1, none), (2, none), (9, none)] (0, 0)
noncomputable abbrev K27n2 : Key := nodeKey PROG 27 true 2 [(0, none), (1, none), (7, none), (8, none)] (0, 0)
noncomputable abbrev K13n3 : Key := nodeKey PROG 13 true 3 [(0, none), (1, none), (5, none), (6, none)] (0, 0)
noncomputable abbrev K24n3m2 : Key := nodeKey PROG 24 true 3 [(0, none), (4, some 1), (13, none), (14, none), (15, none)] (2, 5)
noncomputable abbrev K25n3 : Key := nodeKey PROG 25 true 3 [(1, none), (5, none), (11, none), (12, none), (13, none)] (0, 0)
noncomputable abbrev K26n2 : Key := nodeKey PROG 26 true 2 [(0, none), (1, none), (14, none), (15, none), (16, none)] (0, 0)
noncomputable abbrev K24n8m2 : Key := nodeKey PROG 24 true 8 [(0, none), (4, some 1), (30, none), (31, none)] (2, 5)
noncomputable abbrev K26n5 : Key := nodeKey PROG 26 true 5 [(0, none), (1, none), (7, none), (8, none), (14, none), (15, none), (16, none), (26, none), (27, none), (28, none)] (0, 0)
noncomputable abbrev K24n11m2 : Key := nodeKey PROG 24 true 11 [(0, none), (4, some 1), (7, none), (30, none), (31, none), (36, none), (37, none), (38, none)] (2, 5)
noncomputable abbrev K19n6m2 : Key := nodeKey PROG 19 true 6 [(0, some 2000003), (75, none), (76, none), (77, none)] (2, 5)
noncomputable abbrev K14n5 : Key := nodeKey PROG 14 true 5 [(0, none), (1, none), (5, none), (6, none), (7, none), (8, none)] (0, 0)
noncomputable abbrev K14n8 : Key := nodeKey PROG 14 true 8 [(0, none), (1, none), (5, none), (6, none), (7, none)] (0, 0)
noncomputable abbrev K14n12 : Key := nodeKey PROG 14 true 12 [(0, none), (1, none), (5, none), (6, none), (7, none), (10, none)] (0, 0)
noncomputable abbrev K20n3 : Key := nodeKey PROG 20 true 3 [(0, none), (2, none), (7, none), (8, none)] (0, 0)
noncomputable abbrev K14n17 : Key := nodeKey PROG 14 true 17 [(0, none), (1, none), (5, none), (6, none), (7, none), (10, none), (11, none)] (0, 0)
noncomputable abbrev K20n6 : Key := nodeKey PROG 20 true 6 [(0, none), (2, none), (7, none), (8, none), (9, none)] (0, 0)
noncomputable abbrev K20n13 : Key := nodeKey PROG 20 true 13 [(0, none), (7, none), (12, some 1), (13, none)] (0, 0)
noncomputable abbrev K14n21 : Key := nodeKey PROG 14 true 21 [(0, none), (1, none), (5, none), (6, none), (7, none), (12, none), (13, none)] (0, 0)
noncomputable abbrev K20n17 : Key := nodeKey PROG 20 true 17 [(0, none), (7, none), (12, some 1), (14, none)] (0, 0)
noncomputable abbrev K20n21 : Key := nodeKey PROG 20 true 21 [(0, none), (7, none), (12, some 1), (14, none), (15, none), (16, none)] (0, 0)
theorem e6 (O : Orc) (eq : Bool) (q : List (List T)) (er : Bool) (r : List (List T)) (es : Bool) (s : List (List T)) : stepO PROG ann O (Key.call 6) [AV.t (T.lst 3 eq q), AV.t (T.lst 3 er r), AV.t (T.lst 1 es s)] [] =
  (gdK none
    (O (Key.call 15) [AV.t (T.lst 3 eq q), AV.t (T.lst 3 er r), AV.t (T.lst 1 es s)] [])
    fun l =>
    gdK none l.head? fun x =>
      gdK none x.bool? fun b =>
        gdK none l.tail.head? fun x =>
          gdK none (T.int? IntKind.i64 x) fun n =>
            gdK none l.tail.tail.head? fun x =>
              gdK none (T.int? IntKind.i64 x) fun n_1 =>
                gdK none (O (Key.call 8) [] []) fun l =>
                  gdK none l.head? fun x =>
                    gdK none x.bool? fun b_1 =>
                      gdK none
                        (askO (some !!b_1)
                          (O (Key.call 16) [AV.t (T.lst 3 eq q), AV.t (T.lst 3 er r)] []))
                        fun l =>
                        gdK (some !!b_1) l.head? fun x =>
                          gdK (some !!b_1) (T.int? IntKind.i64 x) fun n_2 =>
                            gdK (some !!b_1) l.tail.head? fun x =>
                              gdK (some !!b_1) (T.int? IntKind.i64 x) fun n_3 =>
                                gdK none
                                  (askO (some !!b_1)
                                    (O (Key.call 10) [AV.t (T.lst 3 eq q), AV.t (T.lst 3 er r)]
                                      []))
                                  fun l =>
                                  gdK (some !!b_1) l.head? fun x =>
                                    gdK (some !!b_1) (T.int? IntKind.i64 x) fun n_4 =>
                                      gdK (some !!b_1) l.tail.head? fun x =>
                                        gdK (some !!b_1) (T.int? IntKind.i64 x) fun n_5 =>
                                          bif bif !b_1 then true else !(n_2 == n_4 && (n_3 == n_5 && true)) then
                                            some [T.bool false]
                                          else
                                            gdK none
                                              (O (Key.call 10)
                                                [AV.t (T.lst 3 eq q), AV.t (T.lst 3 er r)] [])
                                              fun l =>
                                              gdK none l.head? fun x =>
                                                gdK none (T.int? IntKind.i64 x) fun n_6 =>
                                                  gdK none l.tail.head? fun x =>
                                                    gdK none (T.int? IntKind.i64 x) fun n_7 =>
                                                      bif
                                                          bif n_6 == (0 : Int) then
                                                            !(↑s.length : Int) == (↑q.length : Int)
                                                          else false then
                                                        gdK none
                                                          (O (Key.call 11)
                                                            [AV.t (T.int IntKind.i64 (9 : Int)),
                                                              AV.t (T.int IntKind.i64 (0 : Int))]
                                                            [])
                                                          fun l =>
                                                          gdK none l.head? fun x =>
                                                            gdK none (T.int? IntKind.i64 x) fun n_8 =>
                                                              gdK none l.tail.head? fun x =>
                                                                gdK none (T.int? IntKind.i64 x) fun n_9 =>
                                                                  O
                                                                    K6n9
                                                                    [AV.t (T.lst 3 eq q),
                                                                      AV.t (T.lst 3 er r),
                                                                      AV.t (T.lst 1 es s), AV.t (T.bool b),
                                                                      AV.ref (Id.c 0) 0,
                                                                      AV.ref (Id.c 1) 0,
                                                                      AV.t (T.int IntKind.i64 (0 : Int))]
                                                                    [Blk.box
                                                                        [AV.t (T.int IntKind.i64 n),
                                                                          AV.t (T.int IntKind.i64 n_1)],
                                                                      Blk.box
                                                                        [AV.t (T.int IntKind.i64 n_8),
                                                                          AV.t (T.int IntKind.i64 n_9)]]
                                                      else
                                                        O
                                                          K6n9
                                                          [AV.t (T.lst 3 eq q), AV.t (T.lst 3 er r),
                                                            AV.t (T.lst 1 es s), AV.t (T.bool b),
                                                            AV.ref (Id.c 0) 0,
                                                            AV.ref (Id.c 1) 0,
                                                            AV.t (T.int IntKind.i64 (0 : Int))]
                                                          [Blk.box
                                                              [AV.t (T.int IntKind.i64 n), AV.t (T.int IntKind.i64 n_1)],
                                                            Blk.box
                                                              [AV.t (T.int IntKind.i64 n_6),
                                                                AV.t (T.int IntKind.i64 n_7)]]) := by kernel_rfl
theorem e15 (O : Orc) (ea0 : Bool) (a0 : List (List T)) (ea1 : Bool) (a1 : List (List T)) (ea2 : Bool) (a2 : List (List T)) : stepO PROG ann O (Key.call 15) [(AV.t (T.lst 3 ea0 a0)), (AV.t (T.lst 3 ea1 a1)), (AV.t (T.lst 1 ea2 a2))] [] =
  (gdK none (O (Key.call 16) [AV.t (T.lst 3 ea0 a0), AV.t (T.lst 3 ea1 a1)] []) fun l =>
    gdK none l.head? fun x =>
      gdK none (T.int? IntKind.i64 x) fun n =>
        gdK none l.tail.head? fun x =>
          gdK none (T.int? IntKind.i64 x) fun n_1 =>
            bif !n == (0 : Int) then some [T.bool false, T.int IntKind.i64 n, T.int IntKind.i64 n_1]
            else
              bif !(↑a2.length : Int) == (↑a0.length : Int) then
                some [T.bool false, T.int IntKind.i64 (9 : Int), T.int IntKind.i64 (0 : Int)]
              else
                O
                  K15n7
                  [AV.t (T.lst 3 ea0 a0), AV.t (T.lst 3 ea1 a1), AV.ref (Id.c 0) 0,
                    AV.ref (Id.c 1) 0, AV.t (T.lst 1 ea2 a2),
                    AV.t (T.int IntKind.i64 (↑a2.length : Int)), AV.t (T.int IntKind.i64 (0 : Int))]
                  [Blk.box [AV.t (T.lst 1 ea2 a2)],
                    Blk.box [AV.t (T.int IntKind.i64 (0 : Int)), AV.t (T.int IntKind.i64 (0 : Int))]]) := by kernel_rfl
theorem e16 (O : Orc) (ea0 : Bool) (a0 : List (List T)) (ea1 : Bool) (a1 : List (List T)) : stepO PROG ann O (Key.call 16) [(AV.t (T.lst 3 ea0 a0)), (AV.t (T.lst 3 ea1 a1))] [] =
  (bif decide ((↑a0.length : Int) > (8 : Int)) then some [T.int IntKind.i64 (2 : Int), T.int IntKind.i64 (0 : Int)]
  else
    bif decide ((↑a1.length : Int) > (60 : Int)) then some [T.int IntKind.i64 (2 : Int), T.int IntKind.i64 (1 : Int)]
    else
      O
        K16n6
        [AV.t (T.lst 3 ea0 a0), AV.t (T.lst 3 ea1 a1), AV.ref (Id.c 0) 0,
          AV.t (T.lst 3 ea0 a0), AV.t (T.int IntKind.i64 (↑a0.length : Int)), AV.t (T.int IntKind.i64 (0 : Int))]
        [Blk.box [AV.t (T.int IntKind.i64 (0 : Int)), AV.t (T.int IntKind.i64 (0 : Int))]]) := by kernel_rfl
theorem e10 (O : Orc) (ea0 : Bool) (a0 : List (List T)) (ea1 : Bool) (a1 : List (List T)) : stepO PROG ann O (Key.call 10) [(AV.t (T.lst 3 ea0 a0)), (AV.t (T.lst 3 ea1 a1))] [] =
  (bif decide ((↑a0.length : Int) > (8 : Int)) then
    gdK none (O (Key.call 11) [AV.t (T.int IntKind.i64 (2 : Int)), AV.t (T.int IntKind.i64 (0 : Int))] [])
      fun l =>
      gdK none l.head? fun x =>
        gdK none (T.int? IntKind.i64 x) fun n =>
          gdK none l.tail.head? fun x =>
            gdK none (T.int? IntKind.i64 x) fun n_1 => some [T.int IntKind.i64 n, T.int IntKind.i64 n_1]
  else
    bif decide ((↑a1.length : Int) > (60 : Int)) then
      gdK none (O (Key.call 11) [AV.t (T.int IntKind.i64 (2 : Int)), AV.t (T.int IntKind.i64 (1 : Int))] [])
        fun l =>
        gdK none l.head? fun x =>
          gdK none (T.int? IntKind.i64 x) fun n =>
            gdK none l.tail.head? fun x =>
              gdK none (T.int? IntKind.i64 x) fun n_1 => some [T.int IntKind.i64 n, T.int IntKind.i64 n_1]
    else
      O
        K10n6
        [AV.t (T.lst 3 ea0 a0), AV.t (T.lst 3 ea1 a1), AV.ref (Id.c 0) 0,
          AV.t (T.int IntKind.i64 (0 : Int))]
        [Blk.box [AV.t (T.int IntKind.i64 (0 : Int)), AV.t (T.int IntKind.i64 (0 : Int))]]) := by kernel_rfl
theorem e11 (O : Orc) (a0 : Int) (a1 : Int) : stepO PROG ann O (Key.call 11) [(AV.t (T.int IntKind.i64 a0)), (AV.t (T.int IntKind.i64 a1))] [] =
  (some [T.int IntKind.i64 a0, T.int IntKind.i64 a1]) := by kernel_rfl
theorem e6n9 (O : Orc) (ev0 : Bool) (v0 : List (List T)) (ev1 : Bool) (v1 : List (List T)) (ev2 : Bool) (v2 : List (List T)) (v7 : Bool) (v11 : Int) (c0_0 : Int) (c0_1 : Int) (c1_0 : Int) (c1_1 : Int) : stepO PROG ann O K6n9 [(AV.t (T.lst 3 ev0 v0)), (AV.t (T.lst 3 ev1 v1)), (AV.t (T.lst 1 ev2 v2)), (AV.t (T.bool v7)), (AV.ref (Id.c 0) 0), (AV.ref (Id.c 1) 0), (AV.t (T.int IntKind.i64 v11))] [(Blk.box [(AV.t (T.int IntKind.i64 c0_0)), (AV.t (T.int IntKind.i64 c0_1))]), (Blk.box [(AV.t (T.int IntKind.i64 c1_0)), (AV.t (T.int IntKind.i64 c1_1))])] =
  (bif bif decide (v11 < (↑v2.length : Int)) then c1_0 == (0 : Int) else false then
    gdK none (if (0 : Int) ≤ v11 ∧ v11 < (↑v2.length : Int) then some () else none) fun x =>
      gdK none v2[v11.toNat]? fun l =>
        gdK none l.head? fun x =>
          gdK none (T.int? IntKind.i64 x) fun n =>
            gdK none (O (Key.call 17) [AV.t (T.int IntKind.i64 n)] []) fun l =>
              gdK none l.head? fun x =>
                gdK none x.bool? fun b =>
                  bif !b then
                    gdK none
                      (O (Key.call 11) [AV.t (T.int IntKind.i64 (3 : Int)), AV.t (T.int IntKind.i64 v11)] [])
                      fun l =>
                      gdK none l.head? fun x =>
                        gdK none (T.int? IntKind.i64 x) fun n =>
                          gdK none l.tail.head? fun x =>
                            gdK none (T.int? IntKind.i64 x) fun n_1 =>
                              O
                                K6n9
                                [AV.t (T.lst 3 ev0 v0), AV.t (T.lst 3 ev1 v1),
                                  AV.t (T.lst 1 ev2 v2), AV.t (T.bool v7), AV.ref (Id.c 0) 0,
                                  AV.ref (Id.c 1) 0,
                                  AV.t (T.int IntKind.i64 (IntKind.i64.wrap (v11 + (1 : Int))))]
                                [Blk.box [AV.t (T.int IntKind.i64 c0_0), AV.t (T.int IntKind.i64 c0_1)],
                                  Blk.box [AV.t (T.int IntKind.i64 n), AV.t (T.int IntKind.i64 n_1)]]
                  else
                    O
                      K6n9
                      [AV.t (T.lst 3 ev0 v0), AV.t (T.lst 3 ev1 v1), AV.t (T.lst 1 ev2 v2),
                        AV.t (T.bool v7), AV.ref (Id.c 0) 0, AV.ref (Id.c 1) 0,
                        AV.t (T.int IntKind.i64 (IntKind.i64.wrap (v11 + (1 : Int))))]
                      [Blk.box [AV.t (T.int IntKind.i64 c0_0), AV.t (T.int IntKind.i64 c0_1)],
                        Blk.box [AV.t (T.int IntKind.i64 c1_0), AV.t (T.int IntKind.i64 c1_1)]]
  else
    bif !c1_0 == (0 : Int) then some [T.bool (bif c0_0 == c1_0 && (c0_1 == c1_1 && true) then !v7 else false)]
    else
      gdK none
        (askO (some (c0_0 == (0 : Int)))
          (O (Key.call 12)
            [AV.t (T.lst 3 ev0 v0), AV.t (T.lst 3 ev1 v1), AV.t (T.lst 1 ev2 v2)] []))
        fun l =>
        gdK (some (c0_0 == (0 : Int))) l.head? fun x =>
          gdK (some (c0_0 == (0 : Int))) x.bool? fun b => some [T.bool (bif c0_0 == (0 : Int) then v7 == b else false)]) := by kernel_rfl
theorem e15n7 (O : Orc) (ev0 : Bool) (v0 : List (List T)) (ev1 : Bool) (v1 : List (List T)) (ev28 : Bool) (v28 : List (List T)) (v29 : Int) (v30 : Int) (ec0 : Bool) (c0 : List (List T)) (c1_0 : Int) (c1_1 : Int) : stepO PROG ann O K15n7 [(AV.t (T.lst 3 ev0 v0)), (AV.t (T.lst 3 ev1 v1)), (AV.ref (Id.c 0) 0), (AV.ref (Id.c 1) 0), (AV.t (T.lst 1 ev28 v28)), (AV.t (T.int IntKind.i64 v29)), (AV.t (T.int IntKind.i64 v30))] [(Blk.box [(AV.t (T.lst 1 ec0 c0))]), (Blk.box [(AV.t (T.int IntKind.i64 c1_0)), (AV.t (T.int IntKind.i64 c1_1))])] =
  (bif decide (v30 < v29) then
    gdK none (if (0 : Int) ≤ v30 ∧ v30 < (↑v28.length : Int) then some () else none) fun x =>
      gdK none v28[v30.toNat]? fun l =>
        gdK none l.head? fun x =>
          gdK none (T.int? IntKind.i64 x) fun n =>
            bif bif decide (n < (-1000000 : Int)) then true else decide (n > (1000000 : Int)) then
              some [T.bool false, T.int IntKind.i64 (3 : Int), T.int IntKind.i64 v30]
            else
              O
                K15n7
                [AV.t (T.lst 3 ev0 v0), AV.t (T.lst 3 ev1 v1), AV.ref (Id.c 0) 0,
                  AV.ref (Id.c 1) 0, AV.t (T.lst 1 ev28 v28), AV.t (T.int IntKind.i64 v29),
                  AV.t (T.int IntKind.i64 (IntKind.i64.wrap (v30 + (1 : Int))))]
                [Blk.box [AV.t (T.lst 1 ec0 c0)],
                  Blk.box [AV.t (T.int IntKind.i64 c1_0), AV.t (T.int IntKind.i64 c1_1)]]
  else
    O
      K15n13
      [AV.t (T.lst 3 ev0 v0), AV.t (T.lst 3 ev1 v1), AV.ref (Id.c 0) 0,
        AV.ref (Id.c 1) 0, AV.t (T.lst 3 ev0 v0), AV.t (T.int IntKind.i64 (↑v0.length : Int)),
        AV.t (T.int IntKind.i64 (0 : Int))]
      [Blk.box [AV.t (T.lst 1 ec0 c0)], Blk.box [AV.t (T.int IntKind.i64 c1_0), AV.t (T.int IntKind.i64 c1_1)]]) := by kernel_rfl
theorem e16n6 (O : Orc) (ev0 : Bool) (v0 : List (List T)) (ev1 : Bool) (v1 : List (List T)) (ev19 : Bool) (v19 : List (List T)) (v20 : Int) (v21 : Int) (c0_0 : Int) (c0_1 : Int) : stepO PROG ann O K16n6 [(AV.t (T.lst 3 ev0 v0)), (AV.t (T.lst 3 ev1 v1)), (AV.ref (Id.c 0) 0), (AV.t (T.lst 3 ev19 v19)), (AV.t (T.int IntKind.i64 v20)), (AV.t (T.int IntKind.i64 v21))] [(Blk.box [(AV.t (T.int IntKind.i64 c0_0)), (AV.t (T.int IntKind.i64 c0_1))])] =
  (bif decide (v21 < v20) then
    gdK none (if (0 : Int) ≤ v21 ∧ v21 < (↑v19.length : Int) then some () else none) fun x =>
      gdK none v19[v21.toNat]? fun l =>
        gdK none l.head? fun x =>
          gdK none l.tail.head? fun x_1 =>
            gdK none l.tail.tail.head? fun x_2 =>
              gdK none (T.int? IntKind.i64 x) fun n =>
                gdK none (T.int? IntKind.i64 x_1) fun n_1 =>
                  gdK none (T.int? IntKind.i64 x_2) fun n_2 =>
                    bif
                        bif
                            bif
                                bif
                                    bif bif decide (n < (0 : Int)) then true else decide (n > (200 : Int)) then true
                                    else decide (n_2 < (0 : Int)) then
                                  true
                                else decide (n_2 > (200 : Int)) then
                              true
                            else decide (n_1 < (0 : Int)) then
                          true
                        else decide (n_1 ≥ (8 : Int)) then
                      some [T.int IntKind.i64 (3 : Int), T.int IntKind.i64 v21]
                    else
                      O
                        K16n6
                        [AV.t (T.lst 3 ev0 v0), AV.t (T.lst 3 ev1 v1), AV.ref (Id.c 0) 0,
                          AV.t (T.lst 3 ev19 v19), AV.t (T.int IntKind.i64 v20),
                          AV.t (T.int IntKind.i64 (IntKind.i64.wrap (v21 + (1 : Int))))]
                        [Blk.box [AV.t (T.int IntKind.i64 c0_0), AV.t (T.int IntKind.i64 c0_1)]]
  else
    O
      K16n12
      [AV.t (T.lst 3 ev0 v0), AV.ref (Id.c 0) 0, AV.t (T.lst 3 ev1 v1),
        AV.t (T.int IntKind.i64 (↑v1.length : Int)), AV.t (T.int IntKind.i64 (0 : Int))]
      [Blk.box [AV.t (T.int IntKind.i64 c0_0), AV.t (T.int IntKind.i64 c0_1)]]) := by kernel_rfl
theorem e10n6 (O : Orc) (ev0 : Bool) (v0 : List (List T)) (ev1 : Bool) (v1 : List (List T)) (v5 : Int) (c0_0 : Int) (c0_1 : Int) : stepO PROG ann O K10n6 [(AV.t (T.lst 3 ev0 v0)), (AV.t (T.lst 3 ev1 v1)), (AV.ref (Id.c 0) 0), (AV.t (T.int IntKind.i64 v5))] [(Blk.box [(AV.t (T.int IntKind.i64 c0_0)), (AV.t (T.int IntKind.i64 c0_1))])] =
  (bif decide (v5 < (↑v0.length : Int)) then
    gdK none (if (0 : Int) ≤ v5 ∧ v5 < (↑v0.length : Int) then some () else none) fun x =>
      gdK none v0[v5.toNat]? fun l =>
        gdK none l.head? fun x =>
          gdK none l.tail.head? fun x_1 =>
            gdK none l.tail.tail.head? fun x_2 =>
              gdK none (T.int? IntKind.i64 x) fun n =>
                gdK none (T.int? IntKind.i64 x_1) fun n_1 =>
                  gdK none (T.int? IntKind.i64 x_2) fun n_2 =>
                    bif
                        bif
                            bif
                                bif
                                    bif bif decide (n < (0 : Int)) then true else decide (n_2 < (0 : Int)) then true
                                    else decide (n_1 < (0 : Int)) then
                                  true
                                else decide (n > (200 : Int)) then
                              true
                            else decide (n_2 > (200 : Int)) then
                          true
                        else decide (n_1 > (7 : Int)) then
                      gdK none
                        (O (Key.call 11) [AV.t (T.int IntKind.i64 (3 : Int)), AV.t (T.int IntKind.i64 v5)] [])
                        fun l =>
                        gdK none l.head? fun x =>
                          gdK none (T.int? IntKind.i64 x) fun n =>
                            gdK none l.tail.head? fun x =>
                              gdK none (T.int? IntKind.i64 x) fun n_3 => some [T.int IntKind.i64 n, T.int IntKind.i64 n_3]
                    else
                      O
                        K10n6
                        [AV.t (T.lst 3 ev0 v0), AV.t (T.lst 3 ev1 v1), AV.ref (Id.c 0) 0,
                          AV.t (T.int IntKind.i64 (IntKind.i64.wrap (v5 + (1 : Int))))]
                        [Blk.box [AV.t (T.int IntKind.i64 c0_0), AV.t (T.int IntKind.i64 c0_1)]]
  else
    O
      K10n12
      [AV.t (T.lst 3 ev0 v0), AV.t (T.lst 3 ev1 v1), AV.ref (Id.c 0) 0,
        AV.t (T.int IntKind.i64 (0 : Int))]
      [Blk.box [AV.t (T.int IntKind.i64 c0_0), AV.t (T.int IntKind.i64 c0_1)]]) := by kernel_rfl
theorem e17 (O : Orc) (a0 : Int) : stepO PROG ann O (Key.call 17) [(AV.t (T.int IntKind.i64 a0))] [] =
  (some [T.bool (bif decide (a0 ≤ (1000000 : Int)) then decide (a0 ≥ (-1000000 : Int)) else false)]) := by kernel_rfl
theorem e12 (O : Orc) (ea0 : Bool) (a0 : List (List T)) (ea1 : Bool) (a1 : List (List T)) (ea2 : Bool) (a2 : List (List T)) : stepO PROG ann O (Key.call 12) [(AV.t (T.lst 3 ea0 a0)), (AV.t (T.lst 3 ea1 a1)), (AV.t (T.lst 1 ea2 a2))] [] =
  (O
    K12n2
    [AV.t (T.lst 3 ea0 a0), AV.t (T.lst 3 ea1 a1), AV.t (T.lst 1 ea2 a2),
      AV.t (T.int IntKind.i64 (0 : Int))]
    []) := by kernel_rfl
theorem e15n13 (O : Orc) (ev0 : Bool) (v0 : List (List T)) (ev1 : Bool) (v1 : List (List T)) (ev44 : Bool) (v44 : List (List T)) (v45 : Int) (v46 : Int) (ec0 : Bool) (c0 : List (List T)) (c1_0 : Int) (c1_1 : Int) : stepO PROG ann O K15n13 [(AV.t (T.lst 3 ev0 v0)), (AV.t (T.lst 3 ev1 v1)), (AV.ref (Id.c 0) 0), (AV.ref (Id.c 1) 0), (AV.t (T.lst 3 ev44 v44)), (AV.t (T.int IntKind.i64 v45)), (AV.t (T.int IntKind.i64 v46))] [(Blk.box [(AV.t (T.lst 1 ec0 c0))]), (Blk.box [(AV.t (T.int IntKind.i64 c1_0)), (AV.t (T.int IntKind.i64 c1_1))])] =
  (bif decide (v46 < v45) then
    gdK none (if (0 : Int) ≤ v46 ∧ v46 < (↑v44.length : Int) then some () else none) fun x =>
      gdK none v44[v46.toNat]? fun l =>
        gdK none l.head? fun x =>
          gdK none l.tail.head? fun x_1 =>
            gdK none l.tail.tail.head? fun x_2 =>
              gdK none (T.int? IntKind.i64 x) fun n =>
                gdK none (T.int? IntKind.i64 x_1) fun n_1 =>
                  gdK none (T.int? IntKind.i64 x_2) fun n_2 =>
                    gdK none (if (0 : Int) ≤ v46 ∧ v46 < (↑c0.length : Int) then some () else none) fun x =>
                      gdK none c0[v46.toNat]? fun l =>
                        gdK none l.head? fun x =>
                          gdK none (T.int? IntKind.i64 x) fun n_3 =>
                            bif decide (n_3 < n_2) then
                              some [T.bool false, T.int IntKind.i64 (0 : Int), T.int IntKind.i64 (0 : Int)]
                            else
                              gdK none (inB (0 : Int) v46 (↑v0.length : Int)) fun x =>
                                O
                                  K15n18
                                  [AV.t (T.lst 3 ev0 v0), AV.t (T.lst 3 ev1 v1),
                                    AV.ref (Id.c 0) 0, AV.ref (Id.c 1) 0,
                                    AV.t (T.int IntKind.i64 v46), AV.ref (Id.c 2) 0,
                                    AV.t (T.lst 3 ev44 v44), AV.t (T.int IntKind.i64 v45),
                                    AV.t (T.int IntKind.i64 v46), AV.t (T.lst 3 ev0 (sub (0 : Int) v46 v0)),
                                    AV.t (T.int IntKind.i64 (↑(sub (0 : Int) v46 v0).length : Int)),
                                    AV.t (T.int IntKind.i64 (0 : Int))]
                                  [Blk.box [AV.t (T.lst 1 ec0 c0)],
                                    Blk.box [AV.t (T.int IntKind.i64 c1_0), AV.t (T.int IntKind.i64 c1_1)],
                                    Blk.box
                                      [AV.t (T.int IntKind.i64 n), AV.t (T.int IntKind.i64 n_1),
                                        AV.t (T.int IntKind.i64 n_2)]]
  else
    gdK none
      (O (Key.call 22)
        [AV.t (T.lst 3 ev1 v1), AV.fn 23 [] [AV.t (T.ptr [T.lst 1 ec0 c0])]] [])
      fun l =>
      gdK none l.head? fun x =>
        gdK none x.bool? fun b => some [T.bool !b, T.int IntKind.i64 (0 : Int), T.int IntKind.i64 (0 : Int)]) := by kernel_rfl
theorem e16n12 (O : Orc) (ev0 : Bool) (v0 : List (List T)) (ev57 : Bool) (v57 : List (List T)) (v58 : Int) (v59 : Int) (c0_0 : Int) (c0_1 : Int) : stepO PROG ann O K16n12 [(AV.t (T.lst 3 ev0 v0)), (AV.ref (Id.c 0) 0), (AV.t (T.lst 3 ev57 v57)), (AV.t (T.int IntKind.i64 v58)), (AV.t (T.int IntKind.i64 v59))] [(Blk.box [(AV.t (T.int IntKind.i64 c0_0)), (AV.t (T.int IntKind.i64 c0_1))])] =
  (bif decide (v59 < v58) then
    gdK none (if (0 : Int) ≤ v59 ∧ v59 < (↑v57.length : Int) then some () else none) fun x =>
      gdK none v57[v59.toNat]? fun l =>
        gdK none l.head? fun x =>
          gdK none l.tail.head? fun x_1 =>
            gdK none l.tail.tail.head? fun x_2 =>
              gdK none (T.int? IntKind.i64 x) fun n =>
                gdK none (T.int? IntKind.i64 x_1) fun n_1 =>
                  gdK none (T.int? IntKind.i64 x_2) fun n_2 =>
                    bif
                        bif
                            bif bif decide (n < (0 : Int)) then true else decide (n ≥ (↑v0.length : Int)) then true
                            else decide (n_1 < (0 : Int)) then
                          true
                        else decide (n_1 ≥ (↑v0.length : Int)) then
                      some [T.int IntKind.i64 (6 : Int), T.int IntKind.i64 v59]
                    else
                      bif bif decide (n_2 < (-200 : Int)) then true else decide (n_2 > (200 : Int)) then
                        some [T.int IntKind.i64 (5 : Int), T.int IntKind.i64 v59]
                      else
                        O
                          K16n12
                          [AV.t (T.lst 3 ev0 v0), AV.ref (Id.c 0) 0,
                            AV.t (T.lst 3 ev57 v57), AV.t (T.int IntKind.i64 v58),
                            AV.t (T.int IntKind.i64 (IntKind.i64.wrap (v59 + (1 : Int))))]
                          [Blk.box [AV.t (T.int IntKind.i64 c0_0), AV.t (T.int IntKind.i64 c0_1)]]
  else some [T.int IntKind.i64 (0 : Int), T.int IntKind.i64 (0 : Int)]) := by kernel_rfl
theorem e10n12 (O : Orc) (ev0 : Bool) (v0 : List (List T)) (ev1 : Bool) (v1 : List (List T)) (v7 : Int) (c0_0 : Int) (c0_1 : Int) : stepO PROG ann O K10n12 [(AV.t (T.lst 3 ev0 v0)), (AV.t (T.lst 3 ev1 v1)), (AV.ref (Id.c 0) 0), (AV.t (T.int IntKind.i64 v7))] [(Blk.box [(AV.t (T.int IntKind.i64 c0_0)), (AV.t (T.int IntKind.i64 c0_1))])] =
  (bif decide (v7 < (↑v1.length : Int)) then
    gdK none (if (0 : Int) ≤ v7 ∧ v7 < (↑v1.length : Int) then some () else none) fun x =>
      gdK none v1[v7.toNat]? fun l =>
        gdK none l.head? fun x =>
          gdK none (T.int? IntKind.i64 x) fun n =>
            gdK (some !decide (n < (0 : Int))) (if (0 : Int) ≤ v7 ∧ v7 < (↑v1.length : Int) then some () else none)
              fun x =>
              gdK (some !decide (n < (0 : Int))) v1[v7.toNat]? fun l =>
                gdK (some !decide (n < (0 : Int))) (List.drop 1 l).head? fun x =>
                  gdK (some !decide (n < (0 : Int))) (T.int? IntKind.i64 x) fun n_1 =>
                    gdK (some !bif decide (n < (0 : Int)) then true else decide (n_1 < (0 : Int)))
                      (if (0 : Int) ≤ v7 ∧ v7 < (↑v1.length : Int) then some () else none) fun x =>
                      gdK (some !bif decide (n < (0 : Int)) then true else decide (n_1 < (0 : Int))) v1[v7.toNat]?
                        fun l =>
                        gdK (some !bif decide (n < (0 : Int)) then true else decide (n_1 < (0 : Int))) l.head? fun x =>
                          gdK (some !bif decide (n < (0 : Int)) then true else decide (n_1 < (0 : Int)))
                            (T.int? IntKind.i64 x) fun n_2 =>
                            gdK
                              (some
                                !bif bif decide (n < (0 : Int)) then true else decide (n_1 < (0 : Int)) then true
                                  else decide (n_2 ≥ (↑v0.length : Int)))
                              (if (0 : Int) ≤ v7 ∧ v7 < (↑v1.length : Int) then some () else none) fun x =>
                              gdK
                                (some
                                  !bif bif decide (n < (0 : Int)) then true else decide (n_1 < (0 : Int)) then true
                                    else decide (n_2 ≥ (↑v0.length : Int)))
                                v1[v7.toNat]? fun l =>
                                gdK
                                  (some
                                    !bif bif decide (n < (0 : Int)) then true else decide (n_1 < (0 : Int)) then true
                                      else decide (n_2 ≥ (↑v0.length : Int)))
                                  (List.drop 1 l).head? fun x =>
                                  gdK
                                    (some
                                      !bif bif decide (n < (0 : Int)) then true else decide (n_1 < (0 : Int)) then true
                                        else decide (n_2 ≥ (↑v0.length : Int)))
                                    (T.int? IntKind.i64 x) fun n_3 =>
                                    bif
                                        bif
                                            bif bif decide (n < (0 : Int)) then true else decide (n_1 < (0 : Int)) then
                                              true
                                            else decide (n_2 ≥ (↑v0.length : Int)) then
                                          true
                                        else decide (n_3 ≥ (↑v0.length : Int)) then
                                      gdK none
                                        (O (Key.call 11)
                                          [AV.t (T.int IntKind.i64 (6 : Int)), AV.t (T.int IntKind.i64 v7)] [])
                                        fun l =>
                                        gdK none l.head? fun x =>
                                          gdK none (T.int? IntKind.i64 x) fun n =>
                                            gdK none l.tail.head? fun x =>
                                              gdK none (T.int? IntKind.i64 x) fun n_4 =>
                                                some [T.int IntKind.i64 n, T.int IntKind.i64 n_4]
                                    else
                                      gdK none (if (0 : Int) ≤ v7 ∧ v7 < (↑v1.length : Int) then some () else none)
                                        fun x =>
                                        gdK none v1[v7.toNat]? fun l =>
                                          gdK none (List.drop 2 l).head? fun x =>
                                            gdK none (T.int? IntKind.i64 x) fun n =>
                                              gdK (some !decide (n > (200 : Int)))
                                                (if (0 : Int) ≤ v7 ∧ v7 < (↑v1.length : Int) then some () else none)
                                                fun x =>
                                                gdK (some !decide (n > (200 : Int))) v1[v7.toNat]? fun l =>
                                                  gdK (some !decide (n > (200 : Int))) (List.drop 2 l).head?
                                                    fun x =>
                                                    gdK (some !decide (n > (200 : Int))) (T.int? IntKind.i64 x) fun n_4 =>
                                                      bif
                                                          bif decide (n > (200 : Int)) then true
                                                          else decide (n_4 < (-200 : Int)) then
                                                        gdK none
                                                          (O (Key.call 11)
                                                            [AV.t (T.int IntKind.i64 (5 : Int)),
                                                              AV.t (T.int IntKind.i64 v7)]
                                                            [])
                                                          fun l =>
                                                          gdK none l.head? fun x =>
                                                            gdK none (T.int? IntKind.i64 x) fun n =>
                                                              gdK none l.tail.head? fun x =>
                                                                gdK none (T.int? IntKind.i64 x) fun n_5 =>
                                                                  some [T.int IntKind.i64 n, T.int IntKind.i64 n_5]
                                                      else
                                                        O
                                                          K10n12
                                                          [AV.t (T.lst 3 ev0 v0), AV.t (T.lst 3 ev1 v1),
                                                            AV.ref (Id.c 0) 0,
                                                            AV.t (T.int IntKind.i64 (IntKind.i64.wrap (v7 + (1 : Int))))]
                                                          [Blk.box
                                                              [AV.t (T.int IntKind.i64 c0_0),
                                                                AV.t (T.int IntKind.i64 c0_1)]]
  else some [T.int IntKind.i64 (0 : Int), T.int IntKind.i64 (0 : Int)]) := by kernel_rfl
theorem e12n2 (O : Orc) (ev0 : Bool) (v0 : List (List T)) (ev1 : Bool) (v1 : List (List T)) (ev2 : Bool) (v2 : List (List T)) (v7 : Int) : stepO PROG ann O K12n2 [(AV.t (T.lst 3 ev0 v0)), (AV.t (T.lst 3 ev1 v1)), (AV.t (T.lst 1 ev2 v2)), (AV.t (T.int IntKind.i64 v7))] [] =
  (bif decide (v7 < (↑v0.length : Int)) then
    gdK none (if (0 : Int) ≤ v7 ∧ v7 < (↑v2.length : Int) then some () else none) fun x =>
      gdK none v2[v7.toNat]? fun l =>
        gdK none l.head? fun x =>
          gdK none (T.int? IntKind.i64 x) fun n =>
            gdK none (if (0 : Int) ≤ v7 ∧ v7 < (↑v0.length : Int) then some () else none) fun x =>
              gdK none v0[v7.toNat]? fun l =>
                gdK none (List.drop 2 l).head? fun x =>
                  gdK none (T.int? IntKind.i64 x) fun n_1 =>
                    bif decide (n < n_1) then some [T.bool false]
                    else
                      O
                        K12n7
                        [AV.t (T.lst 3 ev0 v0), AV.t (T.lst 3 ev1 v1), AV.t (T.lst 1 ev2 v2),
                          AV.t (T.int IntKind.i64 v7), AV.t (T.int IntKind.i64 (0 : Int))]
                        []
  else
    O
      K12n13
      [AV.t (T.lst 3 ev1 v1), AV.t (T.lst 1 ev2 v2), AV.t (T.int IntKind.i64 (0 : Int))] []) := by kernel_rfl
theorem e15n18 (O : Orc) (ev0 : Bool) (v0 : List (List T)) (ev1 : Bool) (v1 : List (List T)) (v11 : Int) (ev44 : Bool) (v44 : List (List T)) (v45 : Int) (v46 : Int) (ev61 : Bool) (v61 : List (List T)) (v62 : Int) (v63 : Int) (ec0 : Bool) (c0 : List (List T)) (c1_0 : Int) (c1_1 : Int) (c2_0 : Int) (c2_1 : Int) (c2_2 : Int) : stepO PROG ann O K15n18 [(AV.t (T.lst 3 ev0 v0)), (AV.t (T.lst 3 ev1 v1)), (AV.ref (Id.c 0) 0), (AV.ref (Id.c 1) 0), (AV.t (T.int IntKind.i64 v11)), (AV.ref (Id.c 2) 0), (AV.t (T.lst 3 ev44 v44)), (AV.t (T.int IntKind.i64 v45)), (AV.t (T.int IntKind.i64 v46)), (AV.t (T.lst 3 ev61 v61)), (AV.t (T.int IntKind.i64 v62)), (AV.t (T.int IntKind.i64 v63))] [(Blk.box [(AV.t (T.lst 1 ec0 c0))]), (Blk.box [(AV.t (T.int IntKind.i64 c1_0)), (AV.t (T.int IntKind.i64 c1_1))]), (Blk.box [(AV.t (T.int IntKind.i64 c2_0)), (AV.t (T.int IntKind.i64 c2_1)), (AV.t (T.int IntKind.i64 c2_2))])] =
  (bif decide (v63 < v62) then
    gdK none (if (0 : Int) ≤ v63 ∧ v63 < (↑v61.length : Int) then some () else none) fun x =>
      gdK none v61[v63.toNat]? fun l =>
        gdK none l.head? fun x =>
          gdK none l.tail.head? fun x_1 =>
            gdK none l.tail.tail.head? fun x_2 =>
              gdK none (T.int? IntKind.i64 x) fun n =>
                gdK none (T.int? IntKind.i64 x_1) fun n_1 =>
                  gdK none (T.int? IntKind.i64 x_2) fun n_2 =>
                    gdK none
                      (O (Key.call 21)
                        [AV.agg
                            [AV.t (T.int IntKind.i64 c2_0), AV.t (T.int IntKind.i64 c2_1), AV.t (T.int IntKind.i64 c2_2)],
                          AV.agg [AV.t (T.int IntKind.i64 n), AV.t (T.int IntKind.i64 n_1), AV.t (T.int IntKind.i64 n_2)]]
                        [])
                      fun l =>
                      gdK none l.head? fun x =>
                        gdK none x.bool? fun b =>
                          gdK (some b) (if (0 : Int) ≤ v11 ∧ v11 < (↑c0.length : Int) then some () else none) fun x =>
                            gdK (some b) c0[v11.toNat]? fun l =>
                              gdK (some b) l.head? fun x =>
                                gdK (some b) (T.int? IntKind.i64 x) fun n_3 =>
                                  gdK (some b) (if (0 : Int) ≤ v63 ∧ v63 < (↑c0.length : Int) then some () else none)
                                    fun x =>
                                    gdK (some b) c0[v63.toNat]? fun l =>
                                      gdK (some b) l.head? fun x =>
                                        gdK (some b) (T.int? IntKind.i64 x) fun n_4 =>
                                          gdK (some (bif b then decide (IntKind.i64.wrap (n_3 + c2_0) > n_4) else false))
                                            (if (0 : Int) ≤ v63 ∧ v63 < (↑c0.length : Int) then some () else none)
                                            fun x =>
                                            gdK
                                              (some (bif b then decide (IntKind.i64.wrap (n_3 + c2_0) > n_4) else false))
                                              c0[v63.toNat]? fun l =>
                                              gdK
                                                (some
                                                  (bif b then decide (IntKind.i64.wrap (n_3 + c2_0) > n_4) else false))
                                                l.head? fun x =>
                                                gdK
                                                  (some
                                                    (bif b then decide (IntKind.i64.wrap (n_3 + c2_0) > n_4) else false))
                                                  (T.int? IntKind.i64 x) fun n_5 =>
                                                  gdK
                                                    (some
                                                      (bif b then decide (IntKind.i64.wrap (n_3 + c2_0) > n_4)
                                                      else false))
                                                    (if (0 : Int) ≤ v11 ∧ v11 < (↑c0.length : Int) then some () else none)
                                                    fun x =>
                                                    gdK
                                                      (some
                                                        (bif b then decide (IntKind.i64.wrap (n_3 + c2_0) > n_4)
                                                        else false))
                                                      c0[v11.toNat]? fun l =>
                                                      gdK
                                                        (some
                                                          (bif b then decide (IntKind.i64.wrap (n_3 + c2_0) > n_4)
                                                          else false))
                                                        l.head? fun x =>
                                                        gdK
                                                          (some
                                                            (bif b then decide (IntKind.i64.wrap (n_3 + c2_0) > n_4)
                                                            else false))
                                                          (T.int? IntKind.i64 x) fun n_6 =>
                                                          bif
                                                              bif
                                                                  bif b then decide (IntKind.i64.wrap (n_3 + c2_0) > n_4)
                                                                  else false then
                                                                decide (IntKind.i64.wrap (n_5 + n) > n_6)
                                                              else false then
                                                            some
                                                              [T.bool false, T.int IntKind.i64 (0 : Int),
                                                                T.int IntKind.i64 (0 : Int)]
                                                          else
                                                            O
                                                              K15n18
                                                              [AV.t (T.lst 3 ev0 v0),
                                                                AV.t (T.lst 3 ev1 v1),
                                                                AV.ref (Id.c 0) 0,
                                                                AV.ref (Id.c 1) 0,
                                                                AV.t (T.int IntKind.i64 v11),
                                                                AV.ref (Id.c 2) 0,
                                                                AV.t (T.lst 3 ev44 v44),
                                                                AV.t (T.int IntKind.i64 v45),
                                                                AV.t (T.int IntKind.i64 v46),
                                                                AV.t (T.lst 3 ev61 v61),
                                                                AV.t (T.int IntKind.i64 v62),
                                                                AV.t
                                                                  (T.int IntKind.i64
                                                                    (IntKind.i64.wrap (v63 + (1 : Int))))]
                                                              [Blk.box [AV.t (T.lst 1 ec0 c0)],
                                                                Blk.box
                                                                  [AV.t (T.int IntKind.i64 c1_0),
                                                                    AV.t (T.int IntKind.i64 c1_1)],
                                                                Blk.box
                                                                  [AV.t (T.int IntKind.i64 c2_0),
                                                                    AV.t (T.int IntKind.i64 c2_1),
                                                                    AV.t (T.int IntKind.i64 c2_2)]]
  else
    O
      K15n13
      [AV.t (T.lst 3 ev0 v0), AV.t (T.lst 3 ev1 v1), AV.ref (Id.c 0) 0,
        AV.ref (Id.c 1) 0, AV.t (T.lst 3 ev44 v44), AV.t (T.int IntKind.i64 v45),
        AV.t (T.int IntKind.i64 (IntKind.i64.wrap (v46 + (1 : Int))))]
      [Blk.box [AV.t (T.lst 1 ec0 c0)], Blk.box [AV.t (T.int IntKind.i64 c1_0), AV.t (T.int IntKind.i64 c1_1)]]) := by kernel_rfl
theorem e22 (O : Orc) (ea0 : Bool) (a0 : List (List T)) (ea1c : Bool) (a1c : List (List T)) : stepO PROG ann O (Key.call 22) [(AV.t (T.lst 3 ea0 a0)), (AV.fn 23 [] [(AV.t (T.ptr [(T.lst 1 ea1c a1c)]))])] [] =
  (gdK none
    (O (Key.call 27)
      [AV.t (T.lst 3 ea0 a0), AV.fn 23 [] [AV.t (T.ptr [T.lst 1 ea1c a1c])]] [])
    fun l => gdK none l.head? fun x => gdK none (T.int? IntKind.i64 x) fun n => some [T.bool (decide (n ≥ (0 : Int)))]) := by kernel_rfl
theorem e12n7 (O : Orc) (ev0 : Bool) (v0 : List (List T)) (ev1 : Bool) (v1 : List (List T)) (ev2 : Bool) (v2 : List (List T)) (v7 : Int) (v8 : Int) : stepO PROG ann O K12n7 [(AV.t (T.lst 3 ev0 v0)), (AV.t (T.lst 3 ev1 v1)), (AV.t (T.lst 1 ev2 v2)), (AV.t (T.int IntKind.i64 v7)), (AV.t (T.int IntKind.i64 v8))] [] =
  (bif decide (v8 < (↑v0.length : Int)) then
    gdK (some !v8 == v7) (if (0 : Int) ≤ v8 ∧ v8 < (↑v0.length : Int) then some () else none) fun x =>
      gdK (some !v8 == v7) v0[v8.toNat]? fun l =>
        gdK (some !v8 == v7) (List.drop 1 l).head? fun x =>
          gdK (some !v8 == v7) (T.int? IntKind.i64 x) fun n =>
            gdK (some !v8 == v7) (if (0 : Int) ≤ v7 ∧ v7 < (↑v0.length : Int) then some () else none) fun x =>
              gdK (some !v8 == v7) v0[v7.toNat]? fun l =>
                gdK (some !v8 == v7) (List.drop 1 l).head? fun x =>
                  gdK (some !v8 == v7) (T.int? IntKind.i64 x) fun n_1 =>
                    gdK (some !bif v8 == v7 then true else !n == n_1)
                      (if (0 : Int) ≤ v8 ∧ v8 < (↑v0.length : Int) then some () else none) fun x =>
                      gdK (some !bif v8 == v7 then true else !n == n_1) v0[v8.toNat]? fun l =>
                        gdK (some !bif v8 == v7 then true else !n == n_1) l.head? fun x =>
                          gdK (some !bif v8 == v7 then true else !n == n_1) (T.int? IntKind.i64 x) fun n_2 =>
                            gdK (some !bif bif v8 == v7 then true else !n == n_1 then true else n_2 == (0 : Int))
                              (if (0 : Int) ≤ v7 ∧ v7 < (↑v0.length : Int) then some () else none) fun x =>
                              gdK (some !bif bif v8 == v7 then true else !n == n_1 then true else n_2 == (0 : Int))
                                v0[v7.toNat]? fun l =>
                                gdK (some !bif bif v8 == v7 then true else !n == n_1 then true else n_2 == (0 : Int))
                                  l.head? fun x =>
                                  gdK (some !bif bif v8 == v7 then true else !n == n_1 then true else n_2 == (0 : Int))
                                    (T.int? IntKind.i64 x) fun n_3 =>
                                    bif
                                        bif bif bif v8 == v7 then true else !n == n_1 then true else n_2 == (0 : Int) then
                                          true
                                        else n_3 == (0 : Int) then
                                      O
                                        K12n7
                                        [AV.t (T.lst 3 ev0 v0), AV.t (T.lst 3 ev1 v1),
                                          AV.t (T.lst 1 ev2 v2), AV.t (T.int IntKind.i64 v7),
                                          AV.t (T.int IntKind.i64 (IntKind.i64.wrap (v8 + (1 : Int))))]
                                        []
                                    else
                                      gdK none (if (0 : Int) ≤ v8 ∧ v8 < (↑v2.length : Int) then some () else none)
                                        fun x =>
                                        gdK none v2[v8.toNat]? fun l =>
                                          gdK none l.head? fun x =>
                                            gdK none (T.int? IntKind.i64 x) fun n =>
                                              gdK none
                                                (if (0 : Int) ≤ v7 ∧ v7 < (↑v2.length : Int) then some () else none)
                                                fun x =>
                                                gdK none v2[v7.toNat]? fun l =>
                                                  gdK none l.head? fun x =>
                                                    gdK none (T.int? IntKind.i64 x) fun n_4 =>
                                                      gdK (some (decide (n ≤ n_4)))
                                                        (if (0 : Int) ≤ v8 ∧ v8 < (↑v2.length : Int) then some ()
                                                        else none)
                                                        fun x =>
                                                        gdK (some (decide (n ≤ n_4))) v2[v8.toNat]? fun l =>
                                                          gdK (some (decide (n ≤ n_4))) l.head? fun x =>
                                                            gdK (some (decide (n ≤ n_4))) (T.int? IntKind.i64 x)
                                                              fun n_5 =>
                                                              gdK (some (decide (n ≤ n_4)))
                                                                (if (0 : Int) ≤ v8 ∧ v8 < (↑v0.length : Int) then some ()
                                                                else none)
                                                                fun x =>
                                                                gdK (some (decide (n ≤ n_4))) v0[v8.toNat]? fun l =>
                                                                  gdK (some (decide (n ≤ n_4))) l.head? fun x =>
                                                                    gdK (some (decide (n ≤ n_4))) (T.int? IntKind.i64 x)
                                                                      fun n_6 =>
                                                                      gdK (some (decide (n ≤ n_4)))
                                                                        (if (0 : Int) ≤ v7 ∧ v7 < (↑v2.length : Int) then
                                                                          some ()
                                                                        else none)
                                                                        fun x =>
                                                                        gdK (some (decide (n ≤ n_4))) v2[v7.toNat]?
                                                                          fun l =>
                                                                          gdK (some (decide (n ≤ n_4))) l.head? fun x =>
                                                                            gdK (some (decide (n ≤ n_4)))
                                                                              (T.int? IntKind.i64 x) fun n_7 =>
                                                                              bif
                                                                                  bif decide (n ≤ n_4) then
                                                                                    decide
                                                                                      (IntKind.i64.wrap (n_5 + n_6) > n_7)
                                                                                  else false then
                                                                                some [T.bool false]
                                                                              else
                                                                                O
                                                                                  K12n7
                                                                                  [AV.t (T.lst 3 ev0 v0),
                                                                                    AV.t (T.lst 3 ev1 v1),
                                                                                    AV.t (T.lst 1 ev2 v2),
                                                                                    AV.t (T.int IntKind.i64 v7),
                                                                                    AV.t
                                                                                      (T.int IntKind.i64
                                                                                        (IntKind.i64.wrap
                                                                                          (v8 + (1 : Int))))]
                                                                                  []
  else
    O
      K12n2
      [AV.t (T.lst 3 ev0 v0), AV.t (T.lst 3 ev1 v1), AV.t (T.lst 1 ev2 v2),
        AV.t (T.int IntKind.i64 (IntKind.i64.wrap (v7 + (1 : Int))))]
      []) := by kernel_rfl
theorem e12n13 (O : Orc) (ev1 : Bool) (v1 : List (List T)) (ev2 : Bool) (v2 : List (List T)) (v9 : Int) : stepO PROG ann O K12n13 [(AV.t (T.lst 3 ev1 v1)), (AV.t (T.lst 1 ev2 v2)), (AV.t (T.int IntKind.i64 v9))] [] =
  (bif decide (v9 < (↑v1.length : Int)) then
    gdK none (if (0 : Int) ≤ v9 ∧ v9 < (↑v1.length : Int) then some () else none) fun x =>
      gdK none v1[v9.toNat]? fun l =>
        gdK none (List.drop 1 l).head? fun x =>
          gdK none (T.int? IntKind.i64 x) fun n =>
            gdK none (if (0 : Int) ≤ n ∧ n < (↑v2.length : Int) then some () else none) fun x =>
              gdK none v2[n.toNat]? fun l =>
                gdK none l.head? fun x =>
                  gdK none (T.int? IntKind.i64 x) fun n =>
                    gdK none (if (0 : Int) ≤ v9 ∧ v9 < (↑v1.length : Int) then some () else none) fun x =>
                      gdK none v1[v9.toNat]? fun l =>
                        gdK none l.head? fun x =>
                          gdK none (T.int? IntKind.i64 x) fun n_1 =>
                            gdK none (if (0 : Int) ≤ n_1 ∧ n_1 < (↑v2.length : Int) then some () else none) fun x =>
                              gdK none v2[n_1.toNat]? fun l =>
                                gdK none l.head? fun x =>
                                  gdK none (T.int? IntKind.i64 x) fun n_2 =>
                                    gdK none (if (0 : Int) ≤ v9 ∧ v9 < (↑v1.length : Int) then some () else none) fun x =>
                                      gdK none v1[v9.toNat]? fun l =>
                                        gdK none (List.drop 2 l).head? fun x =>
                                          gdK none (T.int? IntKind.i64 x) fun n_3 =>
                                            bif decide (IntKind.i64.wrap (n - n_2) < n_3) then some [T.bool false]
                                            else
                                              O
                                                K12n13
                                                [AV.t (T.lst 3 ev1 v1), AV.t (T.lst 1 ev2 v2),
                                                  AV.t (T.int IntKind.i64 (IntKind.i64.wrap (v9 + (1 : Int))))]
                                                []
  else some [T.bool true]) := by kernel_rfl
theorem e21 (O : Orc) (a0_0 : Int) (a0_1 : Int) (a0_2 : Int) (a1_0 : Int) (a1_1 : Int) (a1_2 : Int) : stepO PROG ann O (Key.call 21) [(AV.agg [(AV.t (T.int IntKind.i64 a0_0)), (AV.t (T.int IntKind.i64 a0_1)), (AV.t (T.int IntKind.i64 a0_2))]), (AV.agg [(AV.t (T.int IntKind.i64 a1_0)), (AV.t (T.int IntKind.i64 a1_1)), (AV.t (T.int IntKind.i64 a1_2))])] [] =
  (some [T.bool (bif bif a0_1 == a1_1 then decide (a0_0 > (0 : Int)) else false then decide (a1_0 > (0 : Int)) else false)]) := by kernel_rfl
theorem e27 (O : Orc) (ea0 : Bool) (a0 : List (List T)) (ea1c : Bool) (a1c : List (List T)) : stepO PROG ann O (Key.call 27) [(AV.t (T.lst 3 ea0 a0)), (AV.fn 23 [] [(AV.t (T.ptr [(T.lst 1 ea1c a1c)]))])] [] =
  (O
    K27n2
    [AV.t (T.lst 3 ea0 a0), AV.fn 23 [] [AV.t (T.ptr [T.lst 1 ea1c a1c])],
      AV.t (T.int IntKind.i64 (↑a0.length : Int)), AV.t (T.int IntKind.i64 (0 : Int))]
    []) := by kernel_rfl
theorem e27n2 (O : Orc) (ev0 : Bool) (v0 : List (List T)) (ev1c : Bool) (v1c : List (List T)) (v7 : Int) (v8 : Int) : stepO PROG ann O K27n2 [(AV.t (T.lst 3 ev0 v0)), (AV.fn 23 [] [(AV.t (T.ptr [(T.lst 1 ev1c v1c)]))]), (AV.t (T.int IntKind.i64 v7)), (AV.t (T.int IntKind.i64 v8))] [] =
  (bif decide (v8 < v7) then
    gdK none (if (0 : Int) ≤ v8 ∧ v8 < (↑v0.length : Int) then some () else none) fun x =>
      gdK none v0[v8.toNat]? fun l =>
        gdK none l.head? fun x =>
          gdK none l.tail.head? fun x_1 =>
            gdK none l.tail.tail.head? fun x_2 =>
              gdK none (T.int? IntKind.i64 x) fun n =>
                gdK none (T.int? IntKind.i64 x_1) fun n_1 =>
                  gdK none (T.int? IntKind.i64 x_2) fun n_2 =>
                    gdK none
                      (O (Key.call 23)
                        [AV.agg [AV.t (T.int IntKind.i64 n), AV.t (T.int IntKind.i64 n_1), AV.t (T.int IntKind.i64 n_2)],
                          AV.t (T.ptr [T.lst 1 ev1c v1c])]
                        [])
                      fun l =>
                      gdK none l.head? fun x =>
                        gdK none x.bool? fun b =>
                          bif b then some [T.int IntKind.i64 v8]
                          else
                            O
                              K27n2
                              [AV.t (T.lst 3 ev0 v0),
                                AV.fn 23 [] [AV.t (T.ptr [T.lst 1 ev1c v1c])],
                                AV.t (T.int IntKind.i64 v7), AV.t (T.int IntKind.i64 (IntKind.i64.wrap (v8 + (1 : Int))))]
                              []
  else some [T.int IntKind.i64 (-1 : Int)]) := by kernel_rfl
theorem e23 (O : Orc) (a0_0 : Int) (a0_1 : Int) (a0_2 : Int) (ea1 : Bool) (a1 : List (List T)) : stepO PROG ann O (Key.call 23) [(AV.agg [(AV.t (T.int IntKind.i64 a0_0)), (AV.t (T.int IntKind.i64 a0_1)), (AV.t (T.int IntKind.i64 a0_2))]), (AV.t (T.ptr [(T.lst 1 ea1 a1)]))] [] =
  (gdK none (if (0 : Int) ≤ a0_1 ∧ a0_1 < (↑a1.length : Int) then some () else none) fun x =>
    gdK none a1[a0_1.toNat]? fun l =>
      gdK none l.head? fun x =>
        gdK none (T.int? IntKind.i64 x) fun n =>
          gdK none (if (0 : Int) ≤ a0_0 ∧ a0_0 < (↑a1.length : Int) then some () else none) fun x =>
            gdK none a1[a0_0.toNat]? fun l =>
              gdK none l.head? fun x =>
                gdK none (T.int? IntKind.i64 x) fun n_1 => some [T.bool (decide (n < IntKind.i64.wrap (n_1 + a0_2)))]) := by kernel_rfl
theorem e3 (O : Orc) (eq : Bool) (q : List (List T)) (er : Bool) (r : List (List T)) (n : Int) : stepO PROG ann O (Key.call 3) [AV.t (T.lst 3 eq q), AV.t (T.lst 3 er r), AV.t (T.int .i64 n)] [] =
  (gdK none (O (Key.call 8) [] []) fun l =>
    gdK none l.head? fun x =>
      gdK none x.bool? fun b =>
        bif !b then some [T.bool false]
        else
          gdK none
            (O (Key.call 9) [AV.t (T.lst 3 eq q), AV.t (T.lst 3 er r), AV.t (T.int IntKind.i64 n)]
              [])
            fun l =>
            gdK none l.head? fun x =>
              gdK none (T.int? IntKind.i64 x) fun n_1 =>
                gdK none l.tail.head? fun x =>
                  gdK none (T.int? IntKind.i64 x) fun n_2 =>
                    gdK none l.tail.tail.head? fun x =>
                      gdK none (T.lst? 1 x) fun p =>
                        gdK none l.tail.tail.tail.head? fun x =>
                          gdK none (T.int? IntKind.i64 x) fun n_3 =>
                            gdK none l.tail.tail.tail.tail.head? fun x =>
                              gdK none (T.int? IntKind.i64 x) fun n_4 =>
                                gdK none
                                  (O (Key.call 10) [AV.t (T.lst 3 eq q), AV.t (T.lst 3 er r)] [])
                                  fun l =>
                                  gdK none l.head? fun x =>
                                    gdK none (T.int? IntKind.i64 x) fun n_5 =>
                                      gdK none l.tail.head? fun x =>
                                        gdK none (T.int? IntKind.i64 x) fun n_6 =>
                                          bif
                                              bif n_5 == (0 : Int) then
                                                bif decide (n < (0 : Int)) then true else decide (n > (2000 : Int))
                                              else false then
                                            gdK none
                                              (O (Key.call 11)
                                                [AV.t (T.int IntKind.i64 (3 : Int)), AV.t (T.int IntKind.i64 (-1 : Int))]
                                                [])
                                              fun l =>
                                              gdK none l.head? fun x =>
                                                gdK none (T.int? IntKind.i64 x) fun n =>
                                                  gdK none l.tail.head? fun x =>
                                                    gdK none (T.int? IntKind.i64 x) fun n_7 =>
                                                      bif !n == (0 : Int) then
                                                        some
                                                          [T.bool
                                                              (bif
                                                                  bif
                                                                      bif n_3 == n && (n_4 == n_7 && true) then
                                                                        n_1 == (0 : Int)
                                                                      else false then
                                                                    n_2 == (0 : Int)
                                                                  else false then
                                                                (↑p.snd.length : Int) == (0 : Int)
                                                              else false)]
                                                      else
                                                        bif !n_3 == (0 : Int) then some [T.bool false]
                                                        else
                                                          bif n_1 == (1 : Int) then
                                                            gdK none
                                                              (askO (some ((↑p.snd.length : Int) == (↑q.length : Int)))
                                                                (O (Key.call 12)
                                                                  [AV.t (T.lst 3 eq q),
                                                                    AV.t (T.lst 3 er r),
                                                                    AV.t (T.lst 1 p.fst p.snd)]
                                                                  []))
                                                              fun l =>
                                                              gdK (some ((↑p.snd.length : Int) == (↑q.length : Int)))
                                                                l.head? fun x =>
                                                                gdK (some ((↑p.snd.length : Int) == (↑q.length : Int)))
                                                                  x.bool? fun b =>
                                                                  gdK none
                                                                    (askO
                                                                      (some
                                                                        (bif
                                                                            (↑p.snd.length : Int) ==
                                                                              (↑q.length : Int) then
                                                                          b
                                                                        else false))
                                                                      (O (Key.call 13)
                                                                        [AV.t (T.lst 3 eq q),
                                                                          AV.t (T.lst 1 p.fst p.snd)]
                                                                        []))
                                                                    fun l =>
                                                                    gdK
                                                                      (some
                                                                        (bif
                                                                            (↑p.snd.length : Int) ==
                                                                              (↑q.length : Int) then
                                                                          b
                                                                        else false))
                                                                      l.head? fun x =>
                                                                      gdK
                                                                        (some
                                                                          (bif
                                                                              (↑p.snd.length : Int) ==
                                                                                (↑q.length : Int) then
                                                                            b
                                                                          else false))
                                                                        (T.int? IntKind.i64 x) fun n =>
                                                                        some
                                                                          [T.bool
                                                                              (bif
                                                                                  bif
                                                                                      (↑p.snd.length : Int) ==
                                                                                        (↑q.length : Int) then
                                                                                    b
                                                                                  else false then
                                                                                n == n_2
                                                                              else false)]
                                                          else
                                                            some
                                                              [T.bool
                                                                  (bif
                                                                      bif
                                                                          bif n_1 == (2 : Int) then true
                                                                          else n_1 == (3 : Int) then
                                                                        n_2 == (0 : Int)
                                                                      else false then
                                                                    (↑p.snd.length : Int) == (0 : Int)
                                                                  else false)]
                                          else
                                            bif !n_5 == (0 : Int) then
                                              some
                                                [T.bool
                                                    (bif
                                                        bif
                                                            bif n_3 == n_5 && (n_4 == n_6 && true) then n_1 == (0 : Int)
                                                            else false then
                                                          n_2 == (0 : Int)
                                                        else false then
                                                      (↑p.snd.length : Int) == (0 : Int)
                                                    else false)]
                                            else
                                              bif !n_3 == (0 : Int) then some [T.bool false]
                                              else
                                                bif n_1 == (1 : Int) then
                                                  gdK none
                                                    (askO (some ((↑p.snd.length : Int) == (↑q.length : Int)))
                                                      (O (Key.call 12)
                                                        [AV.t (T.lst 3 eq q), AV.t (T.lst 3 er r),
                                                          AV.t (T.lst 1 p.fst p.snd)]
                                                        []))
                                                    fun l =>
                                                    gdK (some ((↑p.snd.length : Int) == (↑q.length : Int))) l.head?
                                                      fun x =>
                                                      gdK (some ((↑p.snd.length : Int) == (↑q.length : Int))) x.bool?
                                                        fun b =>
                                                        gdK none
                                                          (askO
                                                            (some
                                                              (bif (↑p.snd.length : Int) == (↑q.length : Int) then b
                                                              else false))
                                                            (O (Key.call 13)
                                                              [AV.t (T.lst 3 eq q),
                                                                AV.t (T.lst 1 p.fst p.snd)]
                                                              []))
                                                          fun l =>
                                                          gdK
                                                            (some
                                                              (bif (↑p.snd.length : Int) == (↑q.length : Int) then b
                                                              else false))
                                                            l.head? fun x =>
                                                            gdK
                                                              (some
                                                                (bif (↑p.snd.length : Int) == (↑q.length : Int) then b
                                                                else false))
                                                              (T.int? IntKind.i64 x) fun n =>
                                                              some
                                                                [T.bool
                                                                    (bif
                                                                        bif
                                                                            (↑p.snd.length : Int) ==
                                                                              (↑q.length : Int) then
                                                                          b
                                                                        else false then
                                                                      n == n_2
                                                                    else false)]
                                                else
                                                  some
                                                    [T.bool
                                                        (bif
                                                            bif bif n_1 == (2 : Int) then true else n_1 == (3 : Int) then
                                                              n_2 == (0 : Int)
                                                            else false then
                                                          (↑p.snd.length : Int) == (0 : Int)
                                                        else false)]) := by kernel_rfl
theorem e9 (O : Orc) (ea0 : Bool) (a0 : List (List T)) (ea1 : Bool) (a1 : List (List T)) (a2 : Int) : stepO PROG ann O (Key.call 9) [(AV.t (T.lst 3 ea0 a0)), (AV.t (T.lst 3 ea1 a1)), (AV.t (T.int IntKind.i64 a2))] [] =
  (gdK none (O (Key.call 16) [AV.t (T.lst 3 ea0 a0), AV.t (T.lst 3 ea1 a1)] []) fun l =>
    gdK none l.head? fun x =>
      gdK none (T.int? IntKind.i64 x) fun n =>
        gdK none l.tail.head? fun x =>
          gdK none (T.int? IntKind.i64 x) fun n_1 =>
            bif !n == (0 : Int) then
              some
                [T.int IntKind.i64 (0 : Int), T.int IntKind.i64 (0 : Int), T.emp true, T.int IntKind.i64 n,
                  T.int IntKind.i64 n_1]
            else
              bif bif decide (a2 < (0 : Int)) then true else decide (a2 > (2000 : Int)) then
                some
                  [T.int IntKind.i64 (0 : Int), T.int IntKind.i64 (0 : Int), T.emp true, T.int IntKind.i64 (3 : Int),
                    T.int IntKind.i64 (-1 : Int)]
              else
                gdK none (O (Key.call 18) [AV.t (T.lst 3 ea1 a1)] []) fun l =>
                  gdK none l.head? fun x =>
                    gdK none (T.lst? 3 x) fun p =>
                      gdK none
                        (O (Key.call 19) [AV.ref (Id.c 0) 0]
                          [Blk.box
                              [AV.t (T.lst 3 ea0 a0), AV.own (Id.c 1), AV.t (T.bool false),
                                AV.t (T.int IntKind.i64 (0 : Int)), AV.t (T.emp true)],
                            Blk.sl false 3 p.fst p.snd])
                        fun l =>
                        gdK none l.head? fun x =>
                          gdK none (T.lst? 3 x) fun p =>
                            gdK none l.tail.head? fun x =>
                              gdK none (T.lst? 3 x) fun p =>
                                gdK none l.tail.tail.head? fun x =>
                                  gdK none x.bool? fun b =>
                                    gdK none l.tail.tail.tail.head? fun x =>
                                      gdK none (T.int? IntKind.i64 x) fun n =>
                                        gdK none l.tail.tail.tail.tail.head? fun x =>
                                          gdK none (T.lst? 1 x) fun p =>
                                            bif !b then
                                              some
                                                [T.int IntKind.i64 (2 : Int), T.int IntKind.i64 (0 : Int), T.emp true,
                                                  T.int IntKind.i64 (0 : Int), T.int IntKind.i64 (0 : Int)]
                                            else
                                              some
                                                [T.int IntKind.i64 (1 : Int), T.int IntKind.i64 n,
                                                  T.lst 1 p.fst p.snd, T.int IntKind.i64 (0 : Int),
                                                  T.int IntKind.i64 (0 : Int)]) := by kernel_rfl
theorem e13 (O : Orc) (ea0 : Bool) (a0 : List (List T)) (ea1 : Bool) (a1 : List (List T)) : stepO PROG ann O (Key.call 13) [(AV.t (T.lst 3 ea0 a0)), (AV.t (T.lst 1 ea1 a1))] [] =
  (O
    K13n3
    [AV.t (T.lst 3 ea0 a0), AV.t (T.lst 1 ea1 a1), AV.t (T.int IntKind.i64 (0 : Int)),
      AV.t (T.int IntKind.i64 (0 : Int))]
    []) := by kernel_rfl
theorem e18 (O : Orc) (ea0 : Bool) (a0 : List (List T)) : stepO PROG ann O (Key.call 18) [(AV.t (T.lst 3 ea0 a0))] [] =
  (bif ea0 then some [T.emp true]
  else gdK none (small 24 (0 + a0.length)) fun x => some [T.lst 3 false a0]) := by kernel_rfl
theorem e13n3 (O : Orc) (ev0 : Bool) (v0 : List (List T)) (ev1 : Bool) (v1 : List (List T)) (v5 : Int) (v6 : Int) : stepO PROG ann O K13n3 [(AV.t (T.lst 3 ev0 v0)), (AV.t (T.lst 1 ev1 v1)), (AV.t (T.int IntKind.i64 v5)), (AV.t (T.int IntKind.i64 v6))] [] =
  (bif decide (v6 < (↑v0.length : Int)) then
    gdK none (if (0 : Int) ≤ v6 ∧ v6 < (↑v1.length : Int) then some () else none) fun x =>
      gdK none v1[v6.toNat]? fun l =>
        gdK none l.head? fun x =>
          gdK none (T.int? IntKind.i64 x) fun n =>
            gdK none (if (0 : Int) ≤ v6 ∧ v6 < (↑v0.length : Int) then some () else none) fun x =>
              gdK none v0[v6.toNat]? fun l =>
                gdK none l.head? fun x =>
                  gdK none (T.int? IntKind.i64 x) fun n_1 =>
                    O
                      K13n3
                      [AV.t (T.lst 3 ev0 v0), AV.t (T.lst 1 ev1 v1),
                        AV.t (T.int IntKind.i64 (mm true v5 (IntKind.i64.wrap (n + n_1)))),
                        AV.t (T.int IntKind.i64 (IntKind.i64.wrap (v6 + (1 : Int))))]
                      []
  else some [T.int IntKind.i64 v5]) := by kernel_rfl
theorem e19 (O : Orc) (ej : Bool) (j : List (List T)) (fd : Bool) (la : Int) (x : T) (ew : Bool) (w : List (List T)) : stepO PROG ann O (Key.call 19) [AV.ref (Id.c 0) 0] [Blk.box [AV.t (T.lst 3 ej j), AV.own (Id.c 1), AV.t (T.bool fd), AV.t (T.int .i64 la), AV.t x], Blk.sl false 3 ew w] =
  (gdK none
    (O (Key.call 24) [AV.ref (Id.c 0) 0]
      [Blk.box
          [AV.t (T.lst 3 ej j), AV.own (Id.c 1), AV.t (T.bool fd), AV.t (T.int IntKind.i64 la), AV.t x],
        Blk.sl false 3 ew w])
    fun l =>
    gdK none l.head? fun x =>
      gdK none (T.lst? 1 x) fun p =>
        gdK none l.tail.head? fun x =>
          gdK none x.bool? fun b =>
            gdK none (List.drop 2 l).head? fun x =>
              gdK none (T.lst? 3 x) fun p_1 =>
                gdK none (List.drop 2 l).tail.head? fun x =>
                  gdK none (T.lst? 3 x) fun p_2 =>
                    gdK none (List.drop 2 l).tail.tail.head? fun x =>
                      gdK none x.bool? fun b_1 =>
                        gdK none (List.drop 2 l).tail.tail.tail.head? fun x =>
                          gdK none (T.int? IntKind.i64 x) fun n =>
                            gdK none (List.drop 2 l).tail.tail.tail.tail.head? fun x =>
                              gdK none (T.lst? 1 x) fun p_3 =>
                                gdK none
                                  (askO (some (bif !!b then b_1 else false))
                                    (O (Key.call 25)
                                      [AV.t
                                          (T.ptr
                                            [T.lst 3 p_1.fst p_1.snd, T.lst 3 p_2.fst p_2.snd, T.bool b_1,
                                              T.int IntKind.i64 n, T.lst 1 p_3.fst p_3.snd]),
                                        AV.t (T.lst 1 p.fst p.snd)]
                                      []))
                                  fun l =>
                                  gdK (some (bif !!b then b_1 else false)) l.head? fun x =>
                                    gdK (some (bif !!b then b_1 else false)) (T.int? IntKind.i64 x) fun n_1 =>
                                      bif bif !b then true else bif b_1 then decide (n_1 ≥ n) else false then
                                        some
                                          [T.lst 3 p_1.fst p_1.snd, T.lst 3 p_2.fst p_2.snd, T.bool b_1,
                                            T.int IntKind.i64 n, T.lst 1 p_3.fst p_3.snd]
                                      else
                                        gdK none
                                          (O (Key.call 26)
                                            [AV.t
                                                (T.ptr
                                                  [T.lst 3 p_1.fst p_1.snd, T.lst 3 p_2.fst p_2.snd,
                                                    T.bool b_1, T.int IntKind.i64 n, T.lst 1 p_3.fst p_3.snd]),
                                              AV.t (T.lst 1 p.fst p.snd)]
                                            [])
                                          fun l =>
                                          gdK none l.head? fun x =>
                                            gdK none (T.int? IntKind.i64 x) fun n_2 =>
                                              gdK none l.tail.head? fun x =>
                                                gdK none (T.int? IntKind.i64 x) fun n_3 =>
                                                  gdK none l.tail.tail.head? fun x =>
                                                    gdK none x.bool? fun b =>
                                                      bif !b then
                                                        gdK none
                                                          (O (Key.call 25)
                                                            [AV.t
                                                                (T.ptr
                                                                  [T.lst 3 p_1.fst p_1.snd,
                                                                    T.lst 3 p_2.fst p_2.snd, T.bool b_1,
                                                                    T.int IntKind.i64 n,
                                                                    T.lst 1 p_3.fst p_3.snd]),
                                                              AV.t (T.lst 1 p.fst p.snd)]
                                                            [])
                                                          fun l =>
                                                          gdK none l.head? fun x =>
                                                            gdK none (T.int? IntKind.i64 x) fun n =>
                                                              some
                                                                [T.lst 3 p_1.fst p_1.snd,
                                                                  T.lst 3 p_2.fst p_2.snd, T.bool true,
                                                                  T.int IntKind.i64 n, T.lst 1 p.fst p.snd]
                                                      else
                                                        gdK none
                                                          (if (0 : Int) ≤ n_2 ∧ n_2 < (↑p_1.snd.length : Int) then some ()
                                                          else none)
                                                          fun x =>
                                                          gdK none p_1.snd[n_2.toNat]? fun l =>
                                                            gdK none l.head? fun x =>
                                                              gdK none (T.int? IntKind.i64 x) fun n_4 =>
                                                                gdK none
                                                                  (if (0 : Int) ≤ n_3 ∧ n_3 < (↑p_1.snd.length : Int) then
                                                                    some ()
                                                                  else none)
                                                                  fun x =>
                                                                  gdK none p_1.snd[n_3.toNat]? fun l =>
                                                                    gdK none l.head? fun x =>
                                                                      gdK none (T.int? IntKind.i64 x) fun n_5 =>
                                                                        O
                                                                          K19n6m2
                                                                          [AV.ref (Id.c 0) 0,
                                                                            AV.own (Id.c 2),
                                                                            AV.t
                                                                              (T.int IntKind.i64
                                                                                (↑[[T.int IntKind.i64 n_2,
                                                                                          T.int IntKind.i64 n_3,
                                                                                          T.int IntKind.i64 n_4],
                                                                                        [T.int IntKind.i64 n_3,
                                                                                          T.int IntKind.i64 n_2,
                                                                                          T.int IntKind.i64 n_5]].length :
                                                                                  Int)),
                                                                            AV.t (T.int IntKind.i64 (0 : Int))]
                                                                          [Blk.box
                                                                              [AV.t (T.lst 3 p_1.fst p_1.snd),
                                                                                AV.own (Id.c 3),
                                                                                AV.t (T.bool b_1),
                                                                                AV.t (T.int IntKind.i64 n),
                                                                                AV.t (T.lst 1 p_3.fst p_3.snd)],
                                                                            Blk.dead,
                                                                            Blk.sl false 3 false
                                                                              [[T.int IntKind.i64 n_2,
                                                                                  T.int IntKind.i64 n_3,
                                                                                  T.int IntKind.i64 n_4],
                                                                                [T.int IntKind.i64 n_3,
                                                                                  T.int IntKind.i64 n_2,
                                                                                  T.int IntKind.i64 n_5]],
                                                                            Blk.sl false 3 p_2.fst p_2.snd]) := by kernel_rfl
theorem e24 (O : Orc) (ec0_0 : Bool) (c0_0 : List (List T)) (c0_2 : Bool) (c0_3 : Int) (c0_4 : T) (ec1 : Bool) (c1 : List (List T)) : stepO PROG ann O (Key.call 24) [(AV.ref (Id.c 0) 0)] [(Blk.box [(AV.t (T.lst 3 ec0_0 c0_0)), (AV.own (Id.c 1)), (AV.t (T.bool c0_2)), (AV.t (T.int IntKind.i64 c0_3)), (AV.t c0_4)]), (Blk.sl false 3 ec1 c1)] =
  (O
    K24n3m2
    [AV.ref (Id.c 0) 0, AV.own (Id.c 2), AV.t (T.lst 3 ec0_0 c0_0),
      AV.t (T.int IntKind.i64 (↑c0_0.length : Int)), AV.t (T.int IntKind.i64 (0 : Int))]
    [Blk.box
        [AV.t (T.lst 3 ec0_0 c0_0), AV.own (Id.c 1), AV.t (T.bool c0_2), AV.t (T.int IntKind.i64 c0_3),
          AV.t c0_4],
      Blk.sl false 3 ec1 c1, Blk.sl false 1 true []]) := by kernel_rfl
theorem e25 (O : Orc) (ea0_0 : Bool) (a0_0 : List (List T)) (ea0_1 : Bool) (a0_1 : List (List T)) (a0_2 : Bool) (a0_3 : Int) (ea0_4 : Bool) (a0_4 : List (List T)) (ea1 : Bool) (a1 : List (List T)) : stepO PROG ann O (Key.call 25) [(AV.t (T.ptr [(T.lst 3 ea0_0 a0_0), (T.lst 3 ea0_1 a0_1), (T.bool a0_2), (T.int IntKind.i64 a0_3), (T.lst 1 ea0_4 a0_4)])), (AV.t (T.lst 1 ea1 a1))] [] =
  (O
    K25n3
    [AV.t (T.lst 1 ea1 a1), AV.t (T.int IntKind.i64 (0 : Int)), AV.t (T.lst 3 ea0_0 a0_0),
      AV.t (T.int IntKind.i64 (↑a0_0.length : Int)), AV.t (T.int IntKind.i64 (0 : Int))]
    []) := by kernel_rfl
theorem e26 (O : Orc) (ea0_0 : Bool) (a0_0 : List (List T)) (ea0_1 : Bool) (a0_1 : List (List T)) (a0_2 : Bool) (a0_3 : Int) (ea0_4 : Bool) (a0_4 : List (List T)) (ea1 : Bool) (a1 : List (List T)) : stepO PROG ann O (Key.call 26) [(AV.t (T.ptr [(T.lst 3 ea0_0 a0_0), (T.lst 3 ea0_1 a0_1), (T.bool a0_2), (T.int IntKind.i64 a0_3), (T.lst 1 ea0_4 a0_4)])), (AV.t (T.lst 1 ea1 a1))] [] =
  (O
    K26n2
    [AV.t
        (T.ptr
          [T.lst 3 ea0_0 a0_0, T.lst 3 ea0_1 a0_1, T.bool a0_2, T.int IntKind.i64 a0_3,
            T.lst 1 ea0_4 a0_4]),
      AV.t (T.lst 1 ea1 a1), AV.t (T.lst 3 ea0_0 a0_0), AV.t (T.int IntKind.i64 (↑a0_0.length : Int)),
      AV.t (T.int IntKind.i64 (0 : Int))]
    []) := by kernel_rfl
theorem e24n3 (O : Orc) (ev13 : Bool) (v13 : List (List T)) (v14 : Int) (v15 : Int) (ec0_0 : Bool) (c0_0 : List (List T)) (c0_2 : Bool) (c0_3 : Int) (c0_4 : T) (ec1 : Bool) (c1 : List (List T)) (ec2 : Bool) (c2 : List (List T)) : stepO PROG ann O K24n3m2 [(AV.ref (Id.c 0) 0), (AV.own (Id.c 2)), (AV.t (T.lst 3 ev13 v13)), (AV.t (T.int IntKind.i64 v14)), (AV.t (T.int IntKind.i64 v15))] [(Blk.box [(AV.t (T.lst 3 ec0_0 c0_0)), (AV.own (Id.c 1)), (AV.t (T.bool c0_2)), (AV.t (T.int IntKind.i64 c0_3)), (AV.t c0_4)]), (Blk.sl false 3 ec1 c1), (Blk.sl false 1 ec2 c2)] =
  (bif decide (v15 < v14) then
    gdK none (if (0 : Int) ≤ v15 ∧ v15 < (↑v13.length : Int) then some () else none) fun x =>
      gdK none v13[v15.toNat]? fun l =>
        gdK none l.head? fun x =>
          gdK none l.tail.head? fun x_1 =>
            gdK none l.tail.tail.head? fun x_2 =>
              gdK none (T.int? IntKind.i64 x) fun n =>
                gdK none (T.int? IntKind.i64 x_1) fun n =>
                  gdK none (T.int? IntKind.i64 x_2) fun n =>
                    gdK none (small 8 (c2.length + [[T.int IntKind.i64 n]].length)) fun x =>
                      O
                        K24n3m2
                        [AV.ref (Id.c 0) 0, AV.own (Id.c 2), AV.t (T.lst 3 ev13 v13),
                          AV.t (T.int IntKind.i64 v14), AV.t (T.int IntKind.i64 (IntKind.i64.wrap (v15 + (1 : Int))))]
                        [Blk.box
                            [AV.t (T.lst 3 ec0_0 c0_0), AV.own (Id.c 1), AV.t (T.bool c0_2),
                              AV.t (T.int IntKind.i64 c0_3), AV.t c0_4],
                          Blk.sl false 3 ec1 c1,
                          Blk.sl false 1 (ec2 && false) (c2 ++ [[T.int IntKind.i64 n]])]
  else
    O
      K24n8m2
      [AV.ref (Id.c 0) 0, AV.own (Id.c 2),
        AV.t (T.int IntKind.i64 (IntKind.i64.wrap ((↑c0_0.length : Int) + (1 : Int)))),
        AV.t (T.int IntKind.i64 (0 : Int))]
      [Blk.box
          [AV.t (T.lst 3 ec0_0 c0_0), AV.own (Id.c 1), AV.t (T.bool c0_2), AV.t (T.int IntKind.i64 c0_3),
            AV.t c0_4],
        Blk.sl false 3 ec1 c1, Blk.sl false 1 ec2 c2]) := by kernel_rfl
theorem e25n3 (O : Orc) (ev1 : Bool) (v1 : List (List T)) (v5 : Int) (ev11 : Bool) (v11 : List (List T)) (v12 : Int) (v13 : Int) : stepO PROG ann O K25n3 [(AV.t (T.lst 1 ev1 v1)), (AV.t (T.int IntKind.i64 v5)), (AV.t (T.lst 3 ev11 v11)), (AV.t (T.int IntKind.i64 v12)), (AV.t (T.int IntKind.i64 v13))] [] =
  (bif decide (v13 < v12) then
    gdK none (if (0 : Int) ≤ v13 ∧ v13 < (↑v11.length : Int) then some () else none) fun x =>
      gdK none v11[v13.toNat]? fun l =>
        gdK none l.head? fun x =>
          gdK none l.tail.head? fun x_1 =>
            gdK none l.tail.tail.head? fun x_2 =>
              gdK none (T.int? IntKind.i64 x) fun n =>
                gdK none (T.int? IntKind.i64 x_1) fun n_1 =>
                  gdK none (T.int? IntKind.i64 x_2) fun n_2 =>
                    gdK none (if (0 : Int) ≤ v13 ∧ v13 < (↑v1.length : Int) then some () else none) fun x =>
                      gdK none v1[v13.toNat]? fun l =>
                        gdK none l.head? fun x =>
                          gdK none (T.int? IntKind.i64 x) fun n_3 =>
                            O
                              K25n3
                              [AV.t (T.lst 1 ev1 v1),
                                AV.t (T.int IntKind.i64 (mm true v5 (IntKind.i64.wrap (n_3 + n)))),
                                AV.t (T.lst 3 ev11 v11), AV.t (T.int IntKind.i64 v12),
                                AV.t (T.int IntKind.i64 (IntKind.i64.wrap (v13 + (1 : Int))))]
                              []
  else some [T.int IntKind.i64 v5]) := by kernel_rfl
theorem e26n2 (O : Orc) (ev0_0 : Bool) (v0_0 : List (List T)) (ev0_1 : Bool) (v0_1 : List (List T)) (v0_2 : Bool) (v0_3 : Int) (ev0_4 : Bool) (v0_4 : List (List T)) (ev1 : Bool) (v1 : List (List T)) (ev14 : Bool) (v14 : List (List T)) (v15 : Int) (v16 : Int) : stepO PROG ann O K26n2 [(AV.t (T.ptr [(T.lst 3 ev0_0 v0_0), (T.lst 3 ev0_1 v0_1), (T.bool v0_2), (T.int IntKind.i64 v0_3), (T.lst 1 ev0_4 v0_4)])), (AV.t (T.lst 1 ev1 v1)), (AV.t (T.lst 3 ev14 v14)), (AV.t (T.int IntKind.i64 v15)), (AV.t (T.int IntKind.i64 v16))] [] =
  (bif decide (v16 < v15) then
    gdK none (if (0 : Int) ≤ v16 ∧ v16 < (↑v14.length : Int) then some () else none) fun x =>
      gdK none v14[v16.toNat]? fun l =>
        gdK none l.head? fun x =>
          gdK none l.tail.head? fun x_1 =>
            gdK none l.tail.tail.head? fun x_2 =>
              gdK none (T.int? IntKind.i64 x) fun n =>
                gdK none (T.int? IntKind.i64 x_1) fun n_1 =>
                  gdK none (T.int? IntKind.i64 x_2) fun n_2 =>
                    gdK none (inB (0 : Int) v16 (↑v0_0.length : Int)) fun x =>
                      O
                        K26n5
                        [AV.t
                            (T.ptr
                              [T.lst 3 ev0_0 v0_0, T.lst 3 ev0_1 v0_1, T.bool v0_2,
                                T.int IntKind.i64 v0_3, T.lst 1 ev0_4 v0_4]),
                          AV.t (T.lst 1 ev1 v1), AV.t (T.int IntKind.i64 v16), AV.ref (Id.c 0) 0,
                          AV.t (T.lst 3 ev14 v14), AV.t (T.int IntKind.i64 v15), AV.t (T.int IntKind.i64 v16),
                          AV.t (T.lst 3 ev0_0 (sub (0 : Int) v16 v0_0)),
                          AV.t (T.int IntKind.i64 (↑(sub (0 : Int) v16 v0_0).length : Int)),
                          AV.t (T.int IntKind.i64 (0 : Int))]
                        [Blk.box [AV.t (T.int IntKind.i64 n), AV.t (T.int IntKind.i64 n_1), AV.t (T.int IntKind.i64 n_2)]]
  else some [T.int IntKind.i64 (0 : Int), T.int IntKind.i64 (0 : Int), T.bool false]) := by kernel_rfl
theorem e24n8 (O : Orc) (v30 : Int) (v31 : Int) (ec0_0 : Bool) (c0_0 : List (List T)) (c0_2 : Bool) (c0_3 : Int) (c0_4 : T) (ec1 : Bool) (c1 : List (List T)) (ec2 : Bool) (c2 : List (List T)) : stepO PROG ann O K24n8m2 [(AV.ref (Id.c 0) 0), (AV.own (Id.c 2)), (AV.t (T.int IntKind.i64 v30)), (AV.t (T.int IntKind.i64 v31))] [(Blk.box [(AV.t (T.lst 3 ec0_0 c0_0)), (AV.own (Id.c 1)), (AV.t (T.bool c0_2)), (AV.t (T.int IntKind.i64 c0_3)), (AV.t c0_4)]), (Blk.sl false 3 ec1 c1), (Blk.sl false 1 ec2 c2)] =
  (bif decide (v31 < v30) then
    O
      K24n11m2
      [AV.ref (Id.c 0) 0, AV.own (Id.c 2), AV.t (T.bool false), AV.t (T.int IntKind.i64 v30),
        AV.t (T.int IntKind.i64 v31), AV.own (Id.c 1), AV.t (T.int IntKind.i64 (↑c1.length : Int)),
        AV.t (T.int IntKind.i64 (0 : Int))]
      [Blk.box
          [AV.t (T.lst 3 ec0_0 c0_0), AV.own (Id.c 1), AV.t (T.bool c0_2), AV.t (T.int IntKind.i64 c0_3),
            AV.t c0_4],
        Blk.sl false 3 ec1 c1, Blk.sl false 1 ec2 c2]
  else
    some
      [T.emp true, T.bool false, T.lst 3 ec0_0 c0_0, T.lst 3 ec1 c1, T.bool c0_2, T.int IntKind.i64 c0_3,
        c0_4]) := by kernel_rfl
theorem e26n5 (O : Orc) (ev0_0 : Bool) (v0_0 : List (List T)) (ev0_1 : Bool) (v0_1 : List (List T)) (v0_2 : Bool) (v0_3 : Int) (ev0_4 : Bool) (v0_4 : List (List T)) (ev1 : Bool) (v1 : List (List T)) (v7 : Int) (ev14 : Bool) (v14 : List (List T)) (v15 : Int) (v16 : Int) (ev26 : Bool) (v26 : List (List T)) (v27 : Int) (v28 : Int) (c0_0 : Int) (c0_1 : Int) (c0_2 : Int) : stepO PROG ann O K26n5 [(AV.t (T.ptr [(T.lst 3 ev0_0 v0_0), (T.lst 3 ev0_1 v0_1), (T.bool v0_2), (T.int IntKind.i64 v0_3), (T.lst 1 ev0_4 v0_4)])), (AV.t (T.lst 1 ev1 v1)), (AV.t (T.int IntKind.i64 v7)), (AV.ref (Id.c 0) 0), (AV.t (T.lst 3 ev14 v14)), (AV.t (T.int IntKind.i64 v15)), (AV.t (T.int IntKind.i64 v16)), (AV.t (T.lst 3 ev26 v26)), (AV.t (T.int IntKind.i64 v27)), (AV.t (T.int IntKind.i64 v28))] [(Blk.box [(AV.t (T.int IntKind.i64 c0_0)), (AV.t (T.int IntKind.i64 c0_1)), (AV.t (T.int IntKind.i64 c0_2))])] =
  (bif decide (v28 < v27) then
    gdK none (if (0 : Int) ≤ v28 ∧ v28 < (↑v26.length : Int) then some () else none) fun x =>
      gdK none v26[v28.toNat]? fun l =>
        gdK none l.head? fun x =>
          gdK none l.tail.head? fun x_1 =>
            gdK none l.tail.tail.head? fun x_2 =>
              gdK none (T.int? IntKind.i64 x) fun n =>
                gdK none (T.int? IntKind.i64 x_1) fun n_1 =>
                  gdK none (T.int? IntKind.i64 x_2) fun n_2 =>
                    gdK none
                      (O (Key.call 21)
                        [AV.agg
                            [AV.t (T.int IntKind.i64 c0_0), AV.t (T.int IntKind.i64 c0_1), AV.t (T.int IntKind.i64 c0_2)],
                          AV.agg [AV.t (T.int IntKind.i64 n), AV.t (T.int IntKind.i64 n_1), AV.t (T.int IntKind.i64 n_2)]]
                        [])
                      fun l =>
                      gdK none l.head? fun x =>
                        gdK none x.bool? fun b =>
                          gdK (some b) (if (0 : Int) ≤ v7 ∧ v7 < (↑v1.length : Int) then some () else none) fun x =>
                            gdK (some b) v1[v7.toNat]? fun l =>
                              gdK (some b) l.head? fun x =>
                                gdK (some b) (T.int? IntKind.i64 x) fun n_3 =>
                                  gdK (some b) (if (0 : Int) ≤ v28 ∧ v28 < (↑v1.length : Int) then some () else none)
                                    fun x =>
                                    gdK (some b) v1[v28.toNat]? fun l =>
                                      gdK (some b) l.head? fun x =>
                                        gdK (some b) (T.int? IntKind.i64 x) fun n_4 =>
                                          gdK (some (bif b then decide (IntKind.i64.wrap (n_3 + c0_0) > n_4) else false))
                                            (if (0 : Int) ≤ v28 ∧ v28 < (↑v1.length : Int) then some () else none)
                                            fun x =>
                                            gdK
                                              (some (bif b then decide (IntKind.i64.wrap (n_3 + c0_0) > n_4) else false))
                                              v1[v28.toNat]? fun l =>
                                              gdK
                                                (some
                                                  (bif b then decide (IntKind.i64.wrap (n_3 + c0_0) > n_4) else false))
                                                l.head? fun x =>
                                                gdK
                                                  (some
                                                    (bif b then decide (IntKind.i64.wrap (n_3 + c0_0) > n_4) else false))
                                                  (T.int? IntKind.i64 x) fun n_5 =>
                                                  gdK
                                                    (some
                                                      (bif b then decide (IntKind.i64.wrap (n_3 + c0_0) > n_4)
                                                      else false))
                                                    (if (0 : Int) ≤ v7 ∧ v7 < (↑v1.length : Int) then some () else none)
                                                    fun x =>
                                                    gdK
                                                      (some
                                                        (bif b then decide (IntKind.i64.wrap (n_3 + c0_0) > n_4)
                                                        else false))
                                                      v1[v7.toNat]? fun l =>
                                                      gdK
                                                        (some
                                                          (bif b then decide (IntKind.i64.wrap (n_3 + c0_0) > n_4)
                                                          else false))
                                                        l.head? fun x =>
                                                        gdK
                                                          (some
                                                            (bif b then decide (IntKind.i64.wrap (n_3 + c0_0) > n_4)
                                                            else false))
                                                          (T.int? IntKind.i64 x) fun n_6 =>
                                                          bif
                                                              bif
                                                                  bif b then decide (IntKind.i64.wrap (n_3 + c0_0) > n_4)
                                                                  else false then
                                                                decide (IntKind.i64.wrap (n_5 + n) > n_6)
                                                              else false then
                                                            some
                                                              [T.int IntKind.i64 v28, T.int IntKind.i64 v7, T.bool true]
                                                          else
                                                            O
                                                              K26n5
                                                              [AV.t
                                                                  (T.ptr
                                                                    [T.lst 3 ev0_0 v0_0,
                                                                      T.lst 3 ev0_1 v0_1, T.bool v0_2,
                                                                      T.int IntKind.i64 v0_3,
                                                                      T.lst 1 ev0_4 v0_4]),
                                                                AV.t (T.lst 1 ev1 v1),
                                                                AV.t (T.int IntKind.i64 v7),
                                                                AV.ref (Id.c 0) 0,
                                                                AV.t (T.lst 3 ev14 v14),
                                                                AV.t (T.int IntKind.i64 v15),
                                                                AV.t (T.int IntKind.i64 v16),
                                                                AV.t (T.lst 3 ev26 v26),
                                                                AV.t (T.int IntKind.i64 v27),
                                                                AV.t
                                                                  (T.int IntKind.i64
                                                                    (IntKind.i64.wrap (v28 + (1 : Int))))]
                                                              [Blk.box
                                                                  [AV.t (T.int IntKind.i64 c0_0),
                                                                    AV.t (T.int IntKind.i64 c0_1),
                                                                    AV.t (T.int IntKind.i64 c0_2)]]
  else
    O
      K26n2
      [AV.t
          (T.ptr
            [T.lst 3 ev0_0 v0_0, T.lst 3 ev0_1 v0_1, T.bool v0_2, T.int IntKind.i64 v0_3,
              T.lst 1 ev0_4 v0_4]),
        AV.t (T.lst 1 ev1 v1), AV.t (T.lst 3 ev14 v14), AV.t (T.int IntKind.i64 v15),
        AV.t (T.int IntKind.i64 (IntKind.i64.wrap (v16 + (1 : Int))))]
      []) := by kernel_rfl
theorem e24n11 (O : Orc) (v7 : Bool) (v30 : Int) (v31 : Int) (v37 : Int) (v38 : Int) (ec0_0 : Bool) (c0_0 : List (List T)) (c0_2 : Bool) (c0_3 : Int) (c0_4 : T) (ec1 : Bool) (c1 : List (List T)) (ec2 : Bool) (c2 : List (List T)) : stepO PROG ann O K24n11m2 [(AV.ref (Id.c 0) 0), (AV.own (Id.c 2)), (AV.t (T.bool v7)), (AV.t (T.int IntKind.i64 v30)), (AV.t (T.int IntKind.i64 v31)), (AV.own (Id.c 1)), (AV.t (T.int IntKind.i64 v37)), (AV.t (T.int IntKind.i64 v38))] [(Blk.box [(AV.t (T.lst 3 ec0_0 c0_0)), (AV.own (Id.c 1)), (AV.t (T.bool c0_2)), (AV.t (T.int IntKind.i64 c0_3)), (AV.t c0_4)]), (Blk.sl false 3 ec1 c1), (Blk.sl false 1 ec2 c2)] =
  (bif decide (v38 < v37) then
    gdK none (if (0 : Int) ≤ v38 ∧ v38 < (↑c1.length : Int) then some () else none) fun x =>
      gdK none c1[v38.toNat]? fun l =>
        gdK none l.head? fun x =>
          gdK none l.tail.head? fun x_1 =>
            gdK none l.tail.tail.head? fun x_2 =>
              gdK none (T.int? IntKind.i64 x) fun n =>
                gdK none (T.int? IntKind.i64 x_1) fun n_1 =>
                  gdK none (T.int? IntKind.i64 x_2) fun n_2 =>
                    gdK none (if (0 : Int) ≤ n ∧ n < (↑c2.length : Int) then some () else none) fun x =>
                      gdK none c2[n.toNat]? fun l =>
                        gdK none l.head? fun x =>
                          gdK none (T.int? IntKind.i64 x) fun n_3 =>
                            gdK none (if (0 : Int) ≤ n_1 ∧ n_1 < (↑c2.length : Int) then some () else none) fun x =>
                              gdK none c2[n_1.toNat]? fun l =>
                                gdK none l.head? fun x =>
                                  gdK none (T.int? IntKind.i64 x) fun n_4 =>
                                    bif decide (IntKind.i64.wrap (n_3 + n_2) > n_4) then
                                      gdK none (if (0 : Int) ≤ n ∧ n < (↑c2.length : Int) then some () else none) fun x =>
                                        gdK none c2[n.toNat]? fun l =>
                                          gdK none l.head? fun x =>
                                            gdK none (T.int? IntKind.i64 x) fun n =>
                                              gdK none
                                                (if (0 : Int) ≤ n_1 ∧ n_1 < (↑c2.length : Int) then some () else none)
                                                fun x =>
                                                gdK none
                                                  (storeIn n_1.toNat 0
                                                    [T.int IntKind.i64 (IntKind.i64.wrap (n + n_2))] c2)
                                                  fun l =>
                                                  O
                                                    K24n11m2
                                                    [AV.ref (Id.c 0) 0, AV.own (Id.c 2),
                                                      AV.t (T.bool true), AV.t (T.int IntKind.i64 v30),
                                                      AV.t (T.int IntKind.i64 v31), AV.own (Id.c 1),
                                                      AV.t (T.int IntKind.i64 v37),
                                                      AV.t (T.int IntKind.i64 (IntKind.i64.wrap (v38 + (1 : Int))))]
                                                    [Blk.box
                                                        [AV.t (T.lst 3 ec0_0 c0_0), AV.own (Id.c 1),
                                                          AV.t (T.bool c0_2), AV.t (T.int IntKind.i64 c0_3), AV.t c0_4],
                                                      Blk.sl false 3 ec1 c1, Blk.sl false 1 ec2 l]
                                    else
                                      O
                                        K24n11m2
                                        [AV.ref (Id.c 0) 0, AV.own (Id.c 2), AV.t (T.bool v7),
                                          AV.t (T.int IntKind.i64 v30), AV.t (T.int IntKind.i64 v31),
                                          AV.own (Id.c 1), AV.t (T.int IntKind.i64 v37),
                                          AV.t (T.int IntKind.i64 (IntKind.i64.wrap (v38 + (1 : Int))))]
                                        [Blk.box
                                            [AV.t (T.lst 3 ec0_0 c0_0), AV.own (Id.c 1),
                                              AV.t (T.bool c0_2), AV.t (T.int IntKind.i64 c0_3), AV.t c0_4],
                                          Blk.sl false 3 ec1 c1, Blk.sl false 1 ec2 c2]
  else
    bif !v7 then
      some
        [T.lst 1 ec2 c2, T.bool true, T.lst 3 ec0_0 c0_0, T.lst 3 ec1 c1, T.bool c0_2,
          T.int IntKind.i64 c0_3, c0_4]
    else
      O
        K24n8m2
        [AV.ref (Id.c 0) 0, AV.own (Id.c 2), AV.t (T.int IntKind.i64 v30),
          AV.t (T.int IntKind.i64 (IntKind.i64.wrap (v31 + (1 : Int))))]
        [Blk.box
            [AV.t (T.lst 3 ec0_0 c0_0), AV.own (Id.c 1), AV.t (T.bool c0_2),
              AV.t (T.int IntKind.i64 c0_3), AV.t c0_4],
          Blk.sl false 3 ec1 c1, Blk.sl false 1 ec2 c2]) := by kernel_rfl
theorem e19n6 (O : Orc) (n i : Int) (ej : Bool) (j : List (List T)) (fd : Bool) (la : Int) (x : T) (ea : Bool) (a : List (List T)) (ew : Bool) (w : List (List T)) : stepO PROG ann O K19n6m2 [AV.ref (Id.c 0) 0, AV.own (Id.c 2), AV.t (T.int .i64 n), AV.t (T.int .i64 i)] [Blk.box [AV.t (T.lst 3 ej j), AV.own (Id.c 3), AV.t (T.bool fd), AV.t (T.int .i64 la), AV.t x], Blk.dead, Blk.sl false 3 ea a, Blk.sl false 3 ew w] =
  (bif decide (i < n) then
    gdK none (if (0 : Int) ≤ i ∧ i < (↑a.length : Int) then some () else none) fun x_1 =>
      gdK none a[i.toNat]? fun l =>
        gdK none l.head? fun x_2 =>
          gdK none l.tail.head? fun x_3 =>
            gdK none l.tail.tail.head? fun x_4 =>
              gdK none (T.int? IntKind.i64 x_2) fun n_1 =>
                gdK none (T.int? IntKind.i64 x_3) fun n_2 =>
                  gdK none (T.int? IntKind.i64 x_4) fun n_3 =>
                    gdK none
                      (small 24
                        (w.length + [[T.int IntKind.i64 n_1, T.int IntKind.i64 n_2, T.int IntKind.i64 n_3]].length))
                      fun x_5 =>
                      gdK none
                        (O (Key.call 19) [AV.ref (Id.c 0) 0]
                          [Blk.box
                              [AV.t (T.lst 3 ej j), AV.own (Id.c 1), AV.t (T.bool fd),
                                AV.t (T.int IntKind.i64 la), AV.t x],
                            Blk.sl false 3 (ew && false)
                              (w ++ [[T.int IntKind.i64 n_1, T.int IntKind.i64 n_2, T.int IntKind.i64 n_3]])])
                        fun l =>
                        gdK none l.head? fun x =>
                          gdK none (T.lst? 3 x) fun p =>
                            gdK none l.tail.head? fun x =>
                              gdK none (T.lst? 3 x) fun p_1 =>
                                gdK none l.tail.tail.head? fun x =>
                                  gdK none x.bool? fun b =>
                                    gdK none l.tail.tail.tail.head? fun x =>
                                      gdK none (T.int? IntKind.i64 x) fun n_4 =>
                                        gdK none l.tail.tail.tail.tail.head? fun x =>
                                          gdK none (T.lst? 1 x) fun p_2 =>
                                            gdK none
                                              (inB (0 : Int) (IntKind.i64.wrap ((↑p_1.snd.length : Int) - (1 : Int)))
                                                (↑p_1.snd.length : Int))
                                              fun x =>
                                              O
                                                K19n6m2
                                                [AV.ref (Id.c 0) 0, AV.own (Id.c 2),
                                                  AV.t (T.int IntKind.i64 n),
                                                  AV.t (T.int IntKind.i64 (IntKind.i64.wrap (i + (1 : Int))))]
                                                [Blk.box
                                                    [AV.t (T.lst 3 p.fst p.snd), AV.own (Id.c 3),
                                                      AV.t (T.bool b), AV.t (T.int IntKind.i64 n_4),
                                                      AV.t (T.lst 1 p_2.fst p_2.snd)],
                                                  Blk.dead, Blk.sl false 3 ea a,
                                                  Blk.sl false 3 p_1.fst
                                                    (List.take
                                                      ((IntKind.i64.wrap ((↑p_1.snd.length : Int) - (1 : Int))).toNat -
                                                        0)
                                                      p_1.snd)]
  else some [T.lst 3 ej j, T.lst 3 ew w, T.bool fd, T.int IntKind.i64 la, x]) := by kernel_rfl
theorem e7 (O : Orc) (eq : Bool) (q : List (List T)) (er : Bool) (r : List (List T)) (es : Bool) (s : List (List T)) : stepO PROG ann O (Key.call 7) [AV.t (T.lst 3 eq q), AV.t (T.lst 3 er r), AV.t (T.lst 1 es s)] [] =
  (gdK none (O (Key.call 8) [] []) fun l =>
    gdK none l.head? fun x =>
      gdK none x.bool? fun b =>
        bif !b then some [T.bool false]
        else
          gdK none
            (O (Key.call 9)
              [AV.t (T.lst 3 eq q), AV.t (T.lst 3 er r), AV.t (T.int IntKind.i64 (2000 : Int))] [])
            fun l =>
            gdK none l.head? fun x =>
              gdK none (T.int? IntKind.i64 x) fun n =>
                gdK none l.tail.head? fun x =>
                  gdK none (T.int? IntKind.i64 x) fun n_1 =>
                    gdK none l.tail.tail.head? fun x =>
                      gdK none (T.lst? 1 x) fun p =>
                        gdK none l.tail.tail.tail.head? fun x =>
                          gdK none (T.int? IntKind.i64 x) fun n_2 =>
                            gdK none l.tail.tail.tail.tail.head? fun x =>
                              gdK none (T.int? IntKind.i64 x) fun n_3 =>
                                gdK none
                                  (O (Key.call 15)
                                    [AV.t (T.lst 3 eq q), AV.t (T.lst 3 er r),
                                      AV.t (T.lst 1 es s)]
                                    [])
                                  fun l =>
                                  gdK none l.head? fun x =>
                                    gdK none x.bool? fun b =>
                                      gdK none l.tail.head? fun x =>
                                        gdK none (T.int? IntKind.i64 x) fun n_4 =>
                                          gdK none l.tail.tail.head? fun x =>
                                            gdK none (T.int? IntKind.i64 x) fun n_5 =>
                                              bif bif !n_2 == (0 : Int) then true else !n_4 == (0 : Int) then
                                                some [T.bool (bif n_2 == (0 : Int) then true else n == (0 : Int))]
                                              else
                                                gdK none
                                                  (askO
                                                    (some
                                                      (bif !bif !b then true else n == (3 : Int) then n == (1 : Int)
                                                      else false))
                                                    (O (Key.call 13)
                                                      [AV.t (T.lst 3 eq q), AV.t (T.lst 1 es s)] []))
                                                  fun l =>
                                                  gdK
                                                    (some
                                                      (bif !bif !b then true else n == (3 : Int) then n == (1 : Int)
                                                      else false))
                                                    l.head? fun x =>
                                                    gdK
                                                      (some
                                                        (bif !bif !b then true else n == (3 : Int) then n == (1 : Int)
                                                        else false))
                                                      (T.int? IntKind.i64 x) fun n_6 =>
                                                      some
                                                        [T.bool
                                                            (bif bif !b then true else n == (3 : Int) then true
                                                            else bif n == (1 : Int) then decide (n_1 ≤ n_6) else false)]) := by kernel_rfl
theorem e5 (O : Orc) (eq : Bool) (q : List (List T)) (er : Bool) (r : List (List T)) (w0 w1 w2 k : Int) : stepO PROG ann O (Key.call 5) [AV.t (T.lst 3 eq q), AV.t (T.lst 3 er r), AV.agg [AV.t (T.int .i64 w0), AV.t (T.int .i64 w1), AV.t (T.int .i64 w2)], AV.t (T.int .i64 k)] [] =
  (gdK none (O (Key.call 8) [] []) fun l =>
    gdK none l.head? fun x =>
      gdK none x.bool? fun b =>
        bif !b then some [T.bool false]
        else
          bif decide ((↑q.length : Int) > (5 : Int)) then some [T.bool true]
          else
            gdK none
              (O (Key.call 9)
                [AV.t (T.lst 3 eq q), AV.t (T.lst 3 er r), AV.t (T.int IntKind.i64 (2000 : Int))] [])
              fun l =>
              gdK none l.head? fun x =>
                gdK none (T.int? IntKind.i64 x) fun n =>
                  gdK none l.tail.head? fun x =>
                    gdK none (T.int? IntKind.i64 x) fun n_1 =>
                      gdK none l.tail.tail.head? fun x =>
                        gdK none (T.lst? 1 x) fun p =>
                          gdK none l.tail.tail.tail.head? fun x =>
                            gdK none (T.int? IntKind.i64 x) fun n_2 =>
                              gdK none l.tail.tail.tail.tail.head? fun x =>
                                gdK none (T.int? IntKind.i64 x) fun n_3 =>
                                  gdK none (small 24 r.length) fun x =>
                                    gdK none
                                      (small 24
                                        (r.length +
                                          [[T.int IntKind.i64 w0, T.int IntKind.i64 w1, T.int IntKind.i64 w2]].length))
                                      fun x =>
                                      gdK none
                                        (O (Key.call 9)
                                          [AV.t (T.lst 3 eq q),
                                            AV.t
                                              (T.lst 3 (r.isEmpty && false)
                                                (r ++
                                                  [[T.int IntKind.i64 w0, T.int IntKind.i64 w1, T.int IntKind.i64 w2]])),
                                            AV.t (T.int IntKind.i64 (2000 : Int))]
                                          [])
                                        fun l =>
                                        gdK none l.head? fun x =>
                                          gdK none (T.int? IntKind.i64 x) fun n_4 =>
                                            gdK none l.tail.head? fun x =>
                                              gdK none (T.int? IntKind.i64 x) fun n_5 =>
                                                gdK none l.tail.tail.head? fun x =>
                                                  gdK none (T.lst? 1 x) fun p =>
                                                    gdK none l.tail.tail.tail.head? fun x =>
                                                      gdK none (T.int? IntKind.i64 x) fun n_6 =>
                                                        gdK none l.tail.tail.tail.tail.head? fun x =>
                                                          gdK none (T.int? IntKind.i64 x) fun n_7 =>
                                                            bif !n_2 == (0 : Int) then some [T.bool (n == (0 : Int))]
                                                            else
                                                              bif
                                                                  bif
                                                                      bif n_6 == (0 : Int) then n_4 == (1 : Int)
                                                                      else false then
                                                                    bif !n == (1 : Int) then true else decide (n_5 < n_1)
                                                                  else false then
                                                                some [T.bool false]
                                                              else
                                                                bif
                                                                    bif decide (k < (0 : Int)) then true
                                                                    else decide (k ≥ (↑q.length : Int)) then
                                                                  some [T.bool true]
                                                                else
                                                                  gdK none (small 24 q.length) fun x =>
                                                                    gdK none
                                                                      (if (0 : Int) ≤ k ∧ k < (↑q.length : Int) then
                                                                        some ()
                                                                      else none)
                                                                      fun x =>
                                                                      gdK none q[k.toNat]? fun l =>
                                                                        gdK none l.head? fun x =>
                                                                          gdK none (T.int? IntKind.i64 x) fun n_8 =>
                                                                            gdK none
                                                                              (if
                                                                                  (0 : Int) ≤ k ∧
                                                                                    k < (↑q.length : Int) then
                                                                                some ()
                                                                              else none)
                                                                              fun x =>
                                                                              gdK none
                                                                                (storeIn k.toNat 0
                                                                                  [T.int IntKind.i64
                                                                                      (IntKind.i64.wrap
                                                                                        (n_8.tdiv (2 : Int)))]
                                                                                  q)
                                                                                fun l =>
                                                                                gdK none
                                                                                  (O (Key.call 9)
                                                                                    [AV.t (T.lst 3 q.isEmpty l),
                                                                                      AV.t (T.lst 3 er r),
                                                                                      AV.t
                                                                                        (T.int IntKind.i64 (2000 : Int))]
                                                                                    [])
                                                                                  fun l =>
                                                                                  gdK none l.head? fun x =>
                                                                                    gdK none (T.int? IntKind.i64 x)
                                                                                      fun n_9 =>
                                                                                      gdK none l.tail.head? fun x =>
                                                                                        gdK none (T.int? IntKind.i64 x)
                                                                                          fun n_10 =>
                                                                                          gdK none l.tail.tail.head?
                                                                                            fun x =>
                                                                                            gdK none (T.lst? 1 x)
                                                                                              fun p =>
                                                                                              gdK none
                                                                                                l.tail.tail.tail.head?
                                                                                                fun x =>
                                                                                                gdK none
                                                                                                  (T.int? IntKind.i64 x)
                                                                                                  fun n_11 =>
                                                                                                  gdK none
                                                                                                    l.tail.tail.tail.tail.head?
                                                                                                    fun x =>
                                                                                                    gdK none
                                                                                                      (T.int? IntKind.i64
                                                                                                        x)
                                                                                                      fun n_12 =>
                                                                                                      some
                                                                                                        [T.bool
                                                                                                            (bif
                                                                                                                !n ==
                                                                                                                    (1 :
                                                                                                                      Int) then
                                                                                                              true
                                                                                                            else
                                                                                                              bif
                                                                                                                  bif
                                                                                                                      n_11 ==
                                                                                                                        (0 :
                                                                                                                          Int) then
                                                                                                                    n_9 ==
                                                                                                                      (1 :
                                                                                                                        Int)
                                                                                                                  else
                                                                                                                    false then
                                                                                                                decide
                                                                                                                  (n_10 ≤
                                                                                                                    n_1)
                                                                                                              else false)]) := by kernel_rfl
theorem e4 (O : Orc) (eq : Bool) (q : List (List T)) (er : Bool) (r : List (List T)) : stepO PROG ann O (Key.call 4) [AV.t (T.lst 3 eq q), AV.t (T.lst 3 er r)] [] =
  (gdK none (O (Key.call 8) [] []) fun l =>
    gdK none l.head? fun x =>
      gdK none x.bool? fun b =>
        bif !b then some [T.bool false]
        else
          gdK none
            (askO (some !decide ((↑q.length : Int) > (5 : Int)))
              (O (Key.call 10) [AV.t (T.lst 3 eq q), AV.t (T.lst 3 er r)] []))
            fun l =>
            gdK (some !decide ((↑q.length : Int) > (5 : Int))) l.head? fun x =>
              gdK (some !decide ((↑q.length : Int) > (5 : Int))) (T.int? IntKind.i64 x) fun n =>
                gdK (some !decide ((↑q.length : Int) > (5 : Int))) l.tail.head? fun x =>
                  gdK (some !decide ((↑q.length : Int) > (5 : Int))) (T.int? IntKind.i64 x) fun n_1 =>
                    bif bif decide ((↑q.length : Int) > (5 : Int)) then true else !n == (0 : Int) then some [T.bool true]
                    else
                      gdK none
                        (O (Key.call 9)
                          [AV.t (T.lst 3 eq q), AV.t (T.lst 3 er r),
                            AV.t (T.int IntKind.i64 (2000 : Int))]
                          [])
                        fun l =>
                        gdK none l.head? fun x =>
                          gdK none (T.int? IntKind.i64 x) fun n =>
                            gdK none l.tail.head? fun x =>
                              gdK none (T.int? IntKind.i64 x) fun n_2 =>
                                gdK none l.tail.tail.head? fun x =>
                                  gdK none (T.lst? 1 x) fun p =>
                                    gdK none l.tail.tail.tail.head? fun x =>
                                      gdK none (T.int? IntKind.i64 x) fun n_3 =>
                                        gdK none l.tail.tail.tail.tail.head? fun x =>
                                          gdK none (T.int? IntKind.i64 x) fun n_4 =>
                                            gdK none
                                              (O (Key.call 14)
                                                [AV.t (T.lst 3 eq q), AV.t (T.lst 3 er r)] [])
                                              fun l =>
                                              gdK none l.head? fun x =>
                                                gdK none (T.int? IntKind.i64 x) fun n_5 =>
                                                  bif !n_3 == (0 : Int) then some [T.bool false]
                                                  else
                                                    bif decide (n_5 < (0 : Int)) then some [T.bool (n == (2 : Int))]
                                                    else some [T.bool (bif n == (1 : Int) then n_2 == n_5 else false)]) := by kernel_rfl
theorem e14 (O : Orc) (ea0 : Bool) (a0 : List (List T)) (ea1 : Bool) (a1 : List (List T)) : stepO PROG ann O (Key.call 14) [(AV.t (T.lst 3 ea0 a0)), (AV.t (T.lst 3 ea1 a1))] [] =
  (gdK none (mkOk (↑a0.length : Int) (↑a0.length : Int)) fun x =>
    O
      K14n5
      [AV.t (T.lst 3 ea0 a0), AV.t (T.lst 3 ea1 a1), AV.t (T.int IntKind.i64 (↑a0.length : Int)),
        AV.t (T.int IntKind.i64 (-1 : Int)), AV.own (Id.c 0), AV.t (T.int IntKind.i64 (0 : Int))]
      [Blk.sl false 1 false (List.replicate (↑a0.length : Int).toNat [T.int IntKind.i64 (0 : Int)])]) := by kernel_rfl
theorem e14n5 (O : Orc) (ev0 : Bool) (v0 : List (List T)) (ev1 : Bool) (v1 : List (List T)) (v5 : Int) (v6 : Int) (v8 : Int) (ec0 : Bool) (c0 : List (List T)) : stepO PROG ann O K14n5 [(AV.t (T.lst 3 ev0 v0)), (AV.t (T.lst 3 ev1 v1)), (AV.t (T.int IntKind.i64 v5)), (AV.t (T.int IntKind.i64 v6)), (AV.own (Id.c 0)), (AV.t (T.int IntKind.i64 v8))] [(Blk.sl false 1 ec0 c0)] =
  (bif decide (v8 < v5) then
    gdK none (if (0 : Int) ≤ v8 ∧ v8 < (↑c0.length : Int) then some () else none) fun x =>
      gdK none (storeIn v8.toNat 0 [T.int IntKind.i64 v8] c0) fun l =>
        O
          K14n5
          [AV.t (T.lst 3 ev0 v0), AV.t (T.lst 3 ev1 v1), AV.t (T.int IntKind.i64 v5),
            AV.t (T.int IntKind.i64 v6), AV.own (Id.c 0),
            AV.t (T.int IntKind.i64 (IntKind.i64.wrap (v8 + (1 : Int))))]
          [Blk.sl false 1 ec0 l]
  else
    O
      K14n8
      [AV.t (T.lst 3 ev0 v0), AV.t (T.lst 3 ev1 v1), AV.t (T.int IntKind.i64 v5),
        AV.t (T.int IntKind.i64 v6), AV.own (Id.c 0)]
      [Blk.sl false 1 ec0 c0]) := by kernel_rfl
theorem e14n8 (O : Orc) (ev0 : Bool) (v0 : List (List T)) (ev1 : Bool) (v1 : List (List T)) (v5 : Int) (v6 : Int) (ec0 : Bool) (c0 : List (List T)) : stepO PROG ann O K14n8 [(AV.t (T.lst 3 ev0 v0)), (AV.t (T.lst 3 ev1 v1)), (AV.t (T.int IntKind.i64 v5)), (AV.t (T.int IntKind.i64 v6)), (AV.own (Id.c 0))] [(Blk.sl false 1 ec0 c0)] =
  (gdK none
    (O (Key.call 20) [AV.t (T.lst 3 ev0 v0), AV.t (T.lst 3 ev1 v1), AV.t (T.lst 1 ec0 c0)]
      [])
    fun l =>
    gdK none l.head? fun x =>
      gdK none (T.int? IntKind.i64 x) fun n =>
        bif bif decide (n ≥ (0 : Int)) then bif decide (v6 < (0 : Int)) then true else decide (n < v6) else false then
          O
            K14n12
            [AV.t (T.lst 3 ev0 v0), AV.t (T.lst 3 ev1 v1), AV.t (T.int IntKind.i64 v5),
              AV.t (T.int IntKind.i64 n), AV.own (Id.c 0),
              AV.t (T.int IntKind.i64 (IntKind.i64.wrap (v5 - (2 : Int))))]
            [Blk.sl false 1 ec0 c0]
        else
          O
            K14n12
            [AV.t (T.lst 3 ev0 v0), AV.t (T.lst 3 ev1 v1), AV.t (T.int IntKind.i64 v5),
              AV.t (T.int IntKind.i64 v6), AV.own (Id.c 0),
              AV.t (T.int IntKind.i64 (IntKind.i64.wrap (v5 - (2 : Int))))]
            [Blk.sl false 1 ec0 c0]) := by kernel_rfl
theorem e20 (O : Orc) (ea0 : Bool) (a0 : List (List T)) (ea1 : Bool) (a1 : List (List T)) (ea2 : Bool) (a2 : List (List T)) : stepO PROG ann O (Key.call 20) [(AV.t (T.lst 3 ea0 a0)), (AV.t (T.lst 3 ea1 a1)), (AV.t (T.lst 1 ea2 a2))] [] =
  (gdK none (small 24 a1.length) fun x =>
    O
      K20n3
      [AV.t (T.lst 3 ea0 a0), AV.t (T.lst 1 ea2 a2), AV.own (Id.c 0),
        AV.t (T.int IntKind.i64 (0 : Int))]
      [Blk.sl false 3 a1.isEmpty a1]) := by kernel_rfl
theorem e14n12 (O : Orc) (ev0 : Bool) (v0 : List (List T)) (ev1 : Bool) (v1 : List (List T)) (v5 : Int) (v6 : Int) (v10 : Int) (ec0 : Bool) (c0 : List (List T)) : stepO PROG ann O K14n12 [(AV.t (T.lst 3 ev0 v0)), (AV.t (T.lst 3 ev1 v1)), (AV.t (T.int IntKind.i64 v5)), (AV.t (T.int IntKind.i64 v6)), (AV.own (Id.c 0)), (AV.t (T.int IntKind.i64 v10))] [(Blk.sl false 1 ec0 c0)] =
  (gdK (some (decide (v10 ≥ (0 : Int)))) (if (0 : Int) ≤ v10 ∧ v10 < (↑c0.length : Int) then some () else none) fun x =>
    gdK (some (decide (v10 ≥ (0 : Int)))) c0[v10.toNat]? fun l =>
      gdK (some (decide (v10 ≥ (0 : Int)))) l.head? fun x =>
        gdK (some (decide (v10 ≥ (0 : Int)))) (T.int? IntKind.i64 x) fun n =>
          gdK (some (decide (v10 ≥ (0 : Int))))
            (if
                (0 : Int) ≤ IntKind.i64.wrap (v10 + (1 : Int)) ∧
                  IntKind.i64.wrap (v10 + (1 : Int)) < (↑c0.length : Int) then
              some ()
            else none)
            fun x =>
            gdK (some (decide (v10 ≥ (0 : Int)))) c0[(IntKind.i64.wrap (v10 + (1 : Int))).toNat]? fun l =>
              gdK (some (decide (v10 ≥ (0 : Int)))) l.head? fun x =>
                gdK (some (decide (v10 ≥ (0 : Int)))) (T.int? IntKind.i64 x) fun n_1 =>
                  bif bif decide (v10 ≥ (0 : Int)) then decide (n > n_1) else false then
                    O
                      K14n12
                      [AV.t (T.lst 3 ev0 v0), AV.t (T.lst 3 ev1 v1), AV.t (T.int IntKind.i64 v5),
                        AV.t (T.int IntKind.i64 v6), AV.own (Id.c 0),
                        AV.t (T.int IntKind.i64 (IntKind.i64.wrap (v10 - (1 : Int))))]
                      [Blk.sl false 1 ec0 c0]
                  else
                    bif decide (v10 < (0 : Int)) then some [T.int IntKind.i64 v6]
                    else
                      O
                        K14n17
                        [AV.t (T.lst 3 ev0 v0), AV.t (T.lst 3 ev1 v1), AV.t (T.int IntKind.i64 v5),
                          AV.t (T.int IntKind.i64 v6), AV.own (Id.c 0), AV.t (T.int IntKind.i64 v10),
                          AV.t (T.int IntKind.i64 (IntKind.i64.wrap (v5 - (1 : Int))))]
                        [Blk.sl false 1 ec0 c0]) := by kernel_rfl
theorem e20n3 (O : Orc) (ev0 : Bool) (v0 : List (List T)) (ev2 : Bool) (v2 : List (List T)) (v8 : Int) (ec0 : Bool) (c0 : List (List T)) : stepO PROG ann O K20n3 [(AV.t (T.lst 3 ev0 v0)), (AV.t (T.lst 1 ev2 v2)), (AV.own (Id.c 0)), (AV.t (T.int IntKind.i64 v8))] [(Blk.sl false 3 ec0 c0)] =
  (bif decide (v8 < (↑v2.length : Int)) then
    O
      K20n6
      [AV.t (T.lst 3 ev0 v0), AV.t (T.lst 1 ev2 v2), AV.own (Id.c 0), AV.t (T.int IntKind.i64 v8),
        AV.t (T.int IntKind.i64 (0 : Int))]
      [Blk.sl false 3 ec0 c0]
  else
    O
      K20n13
      [AV.t (T.lst 3 ev0 v0), AV.own (Id.c 0), AV.own (Id.c 1),
        AV.t (T.int IntKind.i64 (0 : Int))]
      [Blk.sl false 3 ec0 c0, Blk.sl false 1 true []]) := by kernel_rfl
theorem e14n17 (O : Orc) (ev0 : Bool) (v0 : List (List T)) (ev1 : Bool) (v1 : List (List T)) (v5 : Int) (v6 : Int) (v10 : Int) (v11 : Int) (ec0 : Bool) (c0 : List (List T)) : stepO PROG ann O K14n17 [(AV.t (T.lst 3 ev0 v0)), (AV.t (T.lst 3 ev1 v1)), (AV.t (T.int IntKind.i64 v5)), (AV.t (T.int IntKind.i64 v6)), (AV.own (Id.c 0)), (AV.t (T.int IntKind.i64 v10)), (AV.t (T.int IntKind.i64 v11))] [(Blk.sl false 1 ec0 c0)] =
  (gdK none (if (0 : Int) ≤ v11 ∧ v11 < (↑c0.length : Int) then some () else none) fun x =>
    gdK none c0[v11.toNat]? fun l =>
      gdK none l.head? fun x =>
        gdK none (T.int? IntKind.i64 x) fun n =>
          gdK none (if (0 : Int) ≤ v10 ∧ v10 < (↑c0.length : Int) then some () else none) fun x =>
            gdK none c0[v10.toNat]? fun l =>
              gdK none l.head? fun x =>
                gdK none (T.int? IntKind.i64 x) fun n_1 =>
                  bif decide (n < n_1) then
                    O
                      K14n17
                      [AV.t (T.lst 3 ev0 v0), AV.t (T.lst 3 ev1 v1), AV.t (T.int IntKind.i64 v5),
                        AV.t (T.int IntKind.i64 v6), AV.own (Id.c 0), AV.t (T.int IntKind.i64 v10),
                        AV.t (T.int IntKind.i64 (IntKind.i64.wrap (v11 - (1 : Int))))]
                      [Blk.sl false 1 ec0 c0]
                  else
                    gdK none (if (0 : Int) ≤ v11 ∧ v11 < (↑c0.length : Int) then some () else none) fun x =>
                      gdK none c0[v11.toNat]? fun l =>
                        gdK none l.head? fun x =>
                          gdK none (T.int? IntKind.i64 x) fun n =>
                            gdK none (if (0 : Int) ≤ v10 ∧ v10 < (↑c0.length : Int) then some () else none) fun x =>
                              gdK none c0[v10.toNat]? fun l =>
                                gdK none l.head? fun x =>
                                  gdK none (T.int? IntKind.i64 x) fun n_2 =>
                                    gdK none (if (0 : Int) ≤ v10 ∧ v10 < (↑c0.length : Int) then some () else none)
                                      fun x =>
                                      gdK none (storeIn v10.toNat 0 [T.int IntKind.i64 n] c0) fun l =>
                                        gdK none (if (0 : Int) ≤ v11 ∧ v11 < (↑l.length : Int) then some () else none)
                                          fun x =>
                                          gdK none (storeIn v11.toNat 0 [T.int IntKind.i64 n_2] l) fun l =>
                                            O
                                              K14n21
                                              [AV.t (T.lst 3 ev0 v0), AV.t (T.lst 3 ev1 v1),
                                                AV.t (T.int IntKind.i64 v5), AV.t (T.int IntKind.i64 v6),
                                                AV.own (Id.c 0),
                                                AV.t (T.int IntKind.i64 (IntKind.i64.wrap (v10 + (1 : Int)))),
                                                AV.t (T.int IntKind.i64 (IntKind.i64.wrap (v5 - (1 : Int))))]
                                              [Blk.sl false 1 ec0 l]) := by kernel_rfl
theorem e20n6 (O : Orc) (ev0 : Bool) (v0 : List (List T)) (ev2 : Bool) (v2 : List (List T)) (v8 : Int) (v9 : Int) (ec0 : Bool) (c0 : List (List T)) : stepO PROG ann O K20n6 [(AV.t (T.lst 3 ev0 v0)), (AV.t (T.lst 1 ev2 v2)), (AV.own (Id.c 0)), (AV.t (T.int IntKind.i64 v8)), (AV.t (T.int IntKind.i64 v9))] [(Blk.sl false 3 ec0 c0)] =
  (bif decide (v9 < v8) then
    gdK none (if (0 : Int) ≤ v9 ∧ v9 < (↑v2.length : Int) then some () else none) fun x =>
      gdK none v2[v9.toNat]? fun l =>
        gdK none l.head? fun x =>
          gdK none (T.int? IntKind.i64 x) fun n =>
            gdK none (if (0 : Int) ≤ v8 ∧ v8 < (↑v2.length : Int) then some () else none) fun x =>
              gdK none v2[v8.toNat]? fun l =>
                gdK none l.head? fun x =>
                  gdK none (T.int? IntKind.i64 x) fun n_1 =>
                    gdK none (if (0 : Int) ≤ n ∧ n < (↑v0.length : Int) then some () else none) fun x =>
                      gdK none v0[n.toNat]? fun l =>
                        gdK none (List.drop 1 l).head? fun x =>
                          gdK none (T.int? IntKind.i64 x) fun n_2 =>
                            gdK none (if (0 : Int) ≤ n_1 ∧ n_1 < (↑v0.length : Int) then some () else none) fun x =>
                              gdK none v0[n_1.toNat]? fun l =>
                                gdK none (List.drop 1 l).head? fun x =>
                                  gdK none (T.int? IntKind.i64 x) fun n_3 =>
                                    gdK (some (n_2 == n_3))
                                      (if (0 : Int) ≤ n ∧ n < (↑v0.length : Int) then some () else none) fun x =>
                                      gdK (some (n_2 == n_3)) v0[n.toNat]? fun l =>
                                        gdK (some (n_2 == n_3)) l.head? fun x =>
                                          gdK (some (n_2 == n_3)) (T.int? IntKind.i64 x) fun n_4 =>
                                            gdK (some (bif n_2 == n_3 then decide (n_4 > (0 : Int)) else false))
                                              (if (0 : Int) ≤ n_1 ∧ n_1 < (↑v0.length : Int) then some () else none)
                                              fun x =>
                                              gdK (some (bif n_2 == n_3 then decide (n_4 > (0 : Int)) else false))
                                                v0[n_1.toNat]? fun l =>
                                                gdK (some (bif n_2 == n_3 then decide (n_4 > (0 : Int)) else false))
                                                  l.head? fun x =>
                                                  gdK (some (bif n_2 == n_3 then decide (n_4 > (0 : Int)) else false))
                                                    (T.int? IntKind.i64 x) fun n_5 =>
                                                    bif
                                                        bif bif n_2 == n_3 then decide (n_4 > (0 : Int)) else false then
                                                          decide (n_5 > (0 : Int))
                                                        else false then
                                                      gdK none
                                                        (if (0 : Int) ≤ n ∧ n < (↑v0.length : Int) then some () else none)
                                                        fun x =>
                                                        gdK none v0[n.toNat]? fun l =>
                                                          gdK none l.head? fun x =>
                                                            gdK none (T.int? IntKind.i64 x) fun n_6 =>
                                                              gdK none
                                                                (small 24
                                                                  (c0.length +
                                                                    [[T.int IntKind.i64 n, T.int IntKind.i64 n_1,
                                                                          T.int IntKind.i64 n_6]].length))
                                                                fun x =>
                                                                O
                                                                  K20n6
                                                                  [AV.t (T.lst 3 ev0 v0),
                                                                    AV.t (T.lst 1 ev2 v2),
                                                                    AV.own (Id.c 0), AV.t (T.int IntKind.i64 v8),
                                                                    AV.t
                                                                      (T.int IntKind.i64
                                                                        (IntKind.i64.wrap (v9 + (1 : Int))))]
                                                                  [Blk.sl false 3 (ec0 && false)
                                                                      (c0 ++
                                                                        [[T.int IntKind.i64 n, T.int IntKind.i64 n_1,
                                                                            T.int IntKind.i64 n_6]])]
                                                    else
                                                      O
                                                        K20n6
                                                        [AV.t (T.lst 3 ev0 v0), AV.t (T.lst 1 ev2 v2),
                                                          AV.own (Id.c 0), AV.t (T.int IntKind.i64 v8),
                                                          AV.t (T.int IntKind.i64 (IntKind.i64.wrap (v9 + (1 : Int))))]
                                                        [Blk.sl false 3 ec0 c0]
  else
    O
      K20n3
      [AV.t (T.lst 3 ev0 v0), AV.t (T.lst 1 ev2 v2), AV.own (Id.c 0),
        AV.t (T.int IntKind.i64 (IntKind.i64.wrap (v8 + (1 : Int))))]
      [Blk.sl false 3 ec0 c0]) := by kernel_rfl
theorem e20n13 (O : Orc) (ev0 : Bool) (v0 : List (List T)) (v13 : Int) (ec0 : Bool) (c0 : List (List T)) (ec1 : Bool) (c1 : List (List T)) : stepO PROG ann O K20n13 [(AV.t (T.lst 3 ev0 v0)), (AV.own (Id.c 0)), (AV.own (Id.c 1)), (AV.t (T.int IntKind.i64 v13))] [(Blk.sl false 3 ec0 c0), (Blk.sl false 1 ec1 c1)] =
  (bif decide (v13 < (↑v0.length : Int)) then
    gdK none (if (0 : Int) ≤ v13 ∧ v13 < (↑v0.length : Int) then some () else none) fun x =>
      gdK none v0[v13.toNat]? fun l =>
        gdK none (List.drop 2 l).head? fun x =>
          gdK none (T.int? IntKind.i64 x) fun n =>
            gdK none (small 8 (c1.length + [[T.int IntKind.i64 n]].length)) fun x =>
              O
                K20n13
                [AV.t (T.lst 3 ev0 v0), AV.own (Id.c 0), AV.own (Id.c 1),
                  AV.t (T.int IntKind.i64 (IntKind.i64.wrap (v13 + (1 : Int))))]
                [Blk.sl false 3 ec0 c0, Blk.sl false 1 (ec1 && false) (c1 ++ [[T.int IntKind.i64 n]])]
  else
    O
      K20n17
      [AV.t (T.lst 3 ev0 v0), AV.own (Id.c 0), AV.own (Id.c 1),
        AV.t (T.int IntKind.i64 (0 : Int))]
      [Blk.sl false 3 ec0 c0, Blk.sl false 1 ec1 c1]) := by kernel_rfl
theorem e14n21 (O : Orc) (ev0 : Bool) (v0 : List (List T)) (ev1 : Bool) (v1 : List (List T)) (v5 : Int) (v6 : Int) (v12 : Int) (v13 : Int) (ec0 : Bool) (c0 : List (List T)) : stepO PROG ann O K14n21 [(AV.t (T.lst 3 ev0 v0)), (AV.t (T.lst 3 ev1 v1)), (AV.t (T.int IntKind.i64 v5)), (AV.t (T.int IntKind.i64 v6)), (AV.own (Id.c 0)), (AV.t (T.int IntKind.i64 v12)), (AV.t (T.int IntKind.i64 v13))] [(Blk.sl false 1 ec0 c0)] =
  (bif decide (v12 < v13) then
    gdK none (if (0 : Int) ≤ v13 ∧ v13 < (↑c0.length : Int) then some () else none) fun x =>
      gdK none c0[v13.toNat]? fun l =>
        gdK none l.head? fun x =>
          gdK none (T.int? IntKind.i64 x) fun n =>
            gdK none (if (0 : Int) ≤ v12 ∧ v12 < (↑c0.length : Int) then some () else none) fun x =>
              gdK none c0[v12.toNat]? fun l =>
                gdK none l.head? fun x =>
                  gdK none (T.int? IntKind.i64 x) fun n_1 =>
                    gdK none (if (0 : Int) ≤ v12 ∧ v12 < (↑c0.length : Int) then some () else none) fun x =>
                      gdK none (storeIn v12.toNat 0 [T.int IntKind.i64 n] c0) fun l =>
                        gdK none (if (0 : Int) ≤ v13 ∧ v13 < (↑l.length : Int) then some () else none) fun x =>
                          gdK none (storeIn v13.toNat 0 [T.int IntKind.i64 n_1] l) fun l =>
                            O
                              K14n21
                              [AV.t (T.lst 3 ev0 v0), AV.t (T.lst 3 ev1 v1), AV.t (T.int IntKind.i64 v5),
                                AV.t (T.int IntKind.i64 v6), AV.own (Id.c 0),
                                AV.t (T.int IntKind.i64 (IntKind.i64.wrap (v12 + (1 : Int)))),
                                AV.t (T.int IntKind.i64 (IntKind.i64.wrap (v13 - (1 : Int))))]
                              [Blk.sl false 1 ec0 l]
  else
    O
      K14n8
      [AV.t (T.lst 3 ev0 v0), AV.t (T.lst 3 ev1 v1), AV.t (T.int IntKind.i64 v5),
        AV.t (T.int IntKind.i64 v6), AV.own (Id.c 0)]
      [Blk.sl false 1 ec0 c0]) := by kernel_rfl
theorem e20n17 (O : Orc) (ev0 : Bool) (v0 : List (List T)) (v14 : Int) (ec0 : Bool) (c0 : List (List T)) (ec1 : Bool) (c1 : List (List T)) : stepO PROG ann O K20n17 [(AV.t (T.lst 3 ev0 v0)), (AV.own (Id.c 0)), (AV.own (Id.c 1)), (AV.t (T.int IntKind.i64 v14))] [(Blk.sl false 3 ec0 c0), (Blk.sl false 1 ec1 c1)] =
  (bif decide (v14 ≤ (↑v0.length : Int)) then
    O
      K20n21
      [AV.t (T.lst 3 ev0 v0), AV.own (Id.c 0), AV.own (Id.c 1), AV.t (T.int IntKind.i64 v14),
        AV.t (T.bool false), AV.t (T.int IntKind.i64 (0 : Int))]
      [Blk.sl false 3 ec0 c0, Blk.sl false 1 ec1 c1]
  else some [T.int IntKind.i64 (-1 : Int)]) := by kernel_rfl
theorem e20n21 (O : Orc) (ev0 : Bool) (v0 : List (List T)) (v14 : Int) (v15 : Bool) (v16 : Int) (ec0 : Bool) (c0 : List (List T)) (ec1 : Bool) (c1 : List (List T)) : stepO PROG ann O K20n21 [(AV.t (T.lst 3 ev0 v0)), (AV.own (Id.c 0)), (AV.own (Id.c 1)), (AV.t (T.int IntKind.i64 v14)), (AV.t (T.bool v15)), (AV.t (T.int IntKind.i64 v16))] [(Blk.sl false 3 ec0 c0), (Blk.sl false 1 ec1 c1)] =
  (bif decide (v16 < (↑c0.length : Int)) then
    gdK none (if (0 : Int) ≤ v16 ∧ v16 < (↑c0.length : Int) then some () else none) fun x =>
      gdK none c0[v16.toNat]? fun l =>
        gdK none l.head? fun x =>
          gdK none (T.int? IntKind.i64 x) fun n =>
            gdK none (if (0 : Int) ≤ n ∧ n < (↑c1.length : Int) then some () else none) fun x =>
              gdK none c1[n.toNat]? fun l =>
                gdK none l.head? fun x =>
                  gdK none (T.int? IntKind.i64 x) fun n =>
                    gdK none (if (0 : Int) ≤ v16 ∧ v16 < (↑c0.length : Int) then some () else none) fun x =>
                      gdK none c0[v16.toNat]? fun l =>
                        gdK none (List.drop 2 l).head? fun x =>
                          gdK none (T.int? IntKind.i64 x) fun n_1 =>
                            gdK none (if (0 : Int) ≤ v16 ∧ v16 < (↑c0.length : Int) then some () else none) fun x =>
                              gdK none c0[v16.toNat]? fun l =>
                                gdK none (List.drop 1 l).head? fun x =>
                                  gdK none (T.int? IntKind.i64 x) fun n_2 =>
                                    gdK none (if (0 : Int) ≤ n_2 ∧ n_2 < (↑c1.length : Int) then some () else none)
                                      fun x =>
                                      gdK none c1[n_2.toNat]? fun l =>
                                        gdK none l.head? fun x =>
                                          gdK none (T.int? IntKind.i64 x) fun n_3 =>
                                            bif decide (IntKind.i64.wrap (n + n_1) > n_3) then
                                              gdK none
                                                (if (0 : Int) ≤ v16 ∧ v16 < (↑c0.length : Int) then some () else none)
                                                fun x =>
                                                gdK none c0[v16.toNat]? fun l =>
                                                  gdK none (List.drop 1 l).head? fun x =>
                                                    gdK none (T.int? IntKind.i64 x) fun n =>
                                                      gdK none
                                                        (if (0 : Int) ≤ v16 ∧ v16 < (↑c0.length : Int) then some ()
                                                        else none)
                                                        fun x =>
                                                        gdK none c0[v16.toNat]? fun l =>
                                                          gdK none l.head? fun x =>
                                                            gdK none (T.int? IntKind.i64 x) fun n_4 =>
                                                              gdK none
                                                                (if (0 : Int) ≤ n_4 ∧ n_4 < (↑c1.length : Int) then
                                                                  some ()
                                                                else none)
                                                                fun x =>
                                                                gdK none c1[n_4.toNat]? fun l =>
                                                                  gdK none l.head? fun x =>
                                                                    gdK none (T.int? IntKind.i64 x) fun n_5 =>
                                                                      gdK none
                                                                        (if
                                                                            (0 : Int) ≤ v16 ∧
                                                                              v16 < (↑c0.length : Int) then
                                                                          some ()
                                                                        else none)
                                                                        fun x =>
                                                                        gdK none c0[v16.toNat]? fun l =>
                                                                          gdK none (List.drop 2 l).head? fun x =>
                                                                            gdK none (T.int? IntKind.i64 x) fun n_6 =>
                                                                              gdK none
                                                                                (if
                                                                                    (0 : Int) ≤ n ∧
                                                                                      n < (↑c1.length : Int) then
                                                                                  some ()
                                                                                else none)
                                                                                fun x =>
                                                                                gdK none
                                                                                  (storeIn n.toNat 0
                                                                                    [T.int IntKind.i64
                                                                                        (IntKind.i64.wrap (n_5 + n_6))]
                                                                                    c1)
                                                                                  fun l =>
                                                                                  O
                                                                                    K20n21
                                                                                    [AV.t (T.lst 3 ev0 v0),
                                                                                      AV.own (Id.c 0),
                                                                                      AV.own (Id.c 1),
                                                                                      AV.t (T.int IntKind.i64 v14),
                                                                                      AV.t (T.bool true),
                                                                                      AV.t
                                                                                        (T.int IntKind.i64
                                                                                          (IntKind.i64.wrap
                                                                                            (v16 + (1 : Int))))]
                                                                                    [Blk.sl false 3 ec0 c0,
                                                                                      Blk.sl false 1 ec1 l]
                                            else
                                              O
                                                K20n21
                                                [AV.t (T.lst 3 ev0 v0), AV.own (Id.c 0),
                                                  AV.own (Id.c 1), AV.t (T.int IntKind.i64 v14),
                                                  AV.t (T.bool v15),
                                                  AV.t (T.int IntKind.i64 (IntKind.i64.wrap (v16 + (1 : Int))))]
                                                [Blk.sl false 3 ec0 c0, Blk.sl false 1 ec1 c1]
  else
    bif !v15 then
      gdK none (O (Key.call 13) [AV.t (T.lst 3 ev0 v0), AV.t (T.lst 1 ec1 c1)] []) fun l =>
        gdK none l.head? fun x => gdK none (T.int? IntKind.i64 x) fun n => some [T.int IntKind.i64 n]
    else
      O
        K20n17
        [AV.t (T.lst 3 ev0 v0), AV.own (Id.c 0), AV.own (Id.c 1),
          AV.t (T.int IntKind.i64 (IntKind.i64.wrap (v14 + (1 : Int))))]
        [Blk.sl false 3 ec0 c0, Blk.sl false 1 ec1 c1]) := by kernel_rfl
end Go.Aev.Gen
