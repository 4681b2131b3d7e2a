/-
  Equations of the functions of the span laws.
-/
import Derived.Test.YteigjcdcmgjdeaaAevGlue
import Derived.Test.YteigjcdcmgjdeaaChecked
import Derived.KernelRfl
set_option linter.unusedSimpArgs false
set_option linter.unusedVariables false
namespace Go.Aev.Gen
open Go Go.Aev
noncomputable abbrev PROG := Go.Proofs.Try.prog
def ann : Ann := {
  live := (fun f r => match f, r with
    | 4, 11 => some [(1, none), (2, none), (8, none), (9, none), (13, none)]
    | 4, 18 => some [(1, none), (2, none), (8, none), (14, none)]
    | 5, 10 => some [(1, none), (6, none), (9, none)]
    | 6, 7 => some [(0, none), (1, none), (2, none), (7, none), (10, none)]
    | 7, 6 => some [(6, none), (8, none), (20, none), (21, none), (22, none)]
    | 8, 2 => some [(0, none), (1, none), (6, none), (10, none)]
    | 10, 4 => some [(2, none), (9, none), (10, none), (11, none)]
    | 11, 4 => some [(0, none), (2, none), (3, none)]
    | 13, 3 => some [(0, none), (6, none), (7, none)]
    | 13, 11 => some [(0, none), (6, none), (7, none), (8, none), (9, none), (10, none), (11, none)]
    | 14, 3 => some [(0, none), (6, none), (7, none)]
    | 15, 4 => some [(0, none), (1, none), (5, none)]
    | 16, 3 => some [(0, none), (4, some 2), (5, none)]
    | 17, 2 => some [(0, none), (1, none), (5, none)]
    | 19, 6 => some [(0, none), (2, none), (9, none)]
    | 22, 11 => some [(1, none), (2, none), (5, some 1), (43, none), (44, none), (45, none)]
    | 23, 4 => some [(0, none), (1, none), (12, none), (13, none)]
    | 26, 6 => some [(0, none), (1, none), (4, none), (5, none)]
    | 27, 2 => some [(1, none), (2, none), (3, none), (4, none), (9, none)]
    | 27, 9 => some [(1, none), (2, none), (3, none), (4, none), (9, none), (10, none), (11, none), (12, some 0), (13, none)]
    | 28, 3 => some [(1, none), (4, none), (5, none), (6, none)]
    | 30, 6 => some [(1, none), (4, none), (21, none), (22, none), (23, none)]
    | 33, 2 => some [(0, none), (1, none), (2, none), (11, none), (12, none), (13, none)]
    | 34, 8 => some [(2, none), (4, none), (5, none)]
    | 37, 3 => some [(0, none), (1, none), (2, none), (7, none), (28, none), (29, none), (30, none)]
    | 37, 7 => some [(0, none), (1, none), (2, none), (7, none), (8, none), (9, none), (10, none), (28, none), (29, none), (30, none), (38, none), (39, none), (40, none)]
    | 41, 3 => some [(0, none), (1, none), (5, some 0), (6, none)]
    | 44, 8 => some [(4, none), (43, none), (44, none), (45, none)]
    | 45, 2 => some [(0, none), (1, none), (7, none), (8, none)]
    | 46, 2 => some [(1, none), (2, none), (3, none), (14, none), (15, none), (16, none)]
    | 51, 2 => some [(0, none), (3, none)]
    | 53, 3 => some [(0, none), (3, none), (4, none)]
    | 54, 2 => some [(0, none), (11, some 0), (12, some 0)]
    | 54, 5 => some [(0, none), (13, none), (14, none)]
    | 66, 6 => some [(0, none), (1, none), (5, none), (6, none), (20, none), (21, none), (22, none)]
    | 67, 6 => some [(0, none), (1, none), (5, none)]
    | 68, 4 => some [(1, none), (5, none), (6, none), (13, none), (14, none), (15, none)]
    | 78, 4 => some [(0, none), (1, none), (6, none), (7, none), (8, none)]
    | 78, 11 => some [(0, none), (1, none), (9, none)]
    | 78, 17 => some [(9, none), (10, none), (11, none), (12, none), (13, none), (14, none)]
    | 78, 21 => some [(9, none), (10, none), (11, none), (12, none), (13, none), (14, none), (16, none), (17, none)]
    | 78, 27 => some [(9, none), (10, none), (11, none), (12, none), (13, none), (14, none), (16, none), (18, none), (19, none), (172, none), (173, none), (174, none)]
    | 78, 41 => some [(9, none), (10, none), (11, none), (12, none), (13, none), (14, none), (16, none), (18, none), (233, none), (234, none), (235, none)]
    | 79, 3 => some [(1, none), (5, none), (16, none), (17, none), (18, none)]
    | 80, 6 => some [(0, none), (1, none), (5, none), (20, none), (21, none), (22, none)]
    | _, _ => none),
  join := (fun _ _ => none),
  sig := (fun f => match f with
    | 21 => some ⟨[.own 2], []⟩
    | 62 => some ⟨[.own 1], []⟩
    | 66 => some ⟨[.own 1], []⟩
    | 68 => some ⟨[.own 1], []⟩
    | 79 => some ⟨[.own 1], []⟩
    | 80 => some ⟨[.own 1], []⟩
    | 78 => some ⟨[.own 1, .own 1], []⟩
    | _ => none),
  bref := (fun f => match f with
    | 22 => some [false, true]
    | 33 => some [false, false, true]
    | 27 => some [false, false, false, true]
    | 36 => some [true]
    | 37 => some [true]
    | 38 => some [true]
    | 48 => some [true]
    | 49 => some [true]
    | 50 => some [true]
    | 51 => some [true]
    | 65 => some [true]
    | 69 => some [true]
    | 71 => some [true]
    | 73 => some [true]
    | 77 => some [true]
    | 54 => some [true]
    | 56 => some [true]
    | 58 => some [true]
    | 59 => some [true]
    | 61 => some [true]
    | 76 => some [true]
    | 52 => some [true, false, false, true]
    | 70 => some [true, false, false, true]
    | _ => none),
  deep := (fun _ => false),
  app := (fun d => match d with
    | some 11 => true
    | some 16 => true
    | _ => false),
  bsig := (fun f m => match f with
    | 22 => ⟨[.f .b], [.sl 2]⟩
    | 27 => ⟨[.f .b], [.sl 2]⟩
    | 36 => ⟨[.ref 0 0], [.box [.f .b, .t (.l 1)]]⟩
    | 37 => ⟨[.ref 0 0], [.box [.f .b, .t (.l 1)]]⟩
    | 38 => ⟨[.ref 0 0], [.box [.f .b, .t (.l 1)]]⟩
    | 48 => ⟨[.ref 0 0], [.box [.f .b, .t (.l 1)]]⟩
    | 49 => ⟨[.ref 0 0], [.box [.f .b, .t (.l 1)]]⟩
    | 50 => ⟨[.ref 0 0], [.box [.f .b, .t (.l 1)]]⟩
    | 51 => if m = 2 then ⟨[.ref 0 0], [.box [.f .b, .t (.l 1)]]⟩ else ⟨[.ref 0 0], [.box [.f .b, .t (.l 1)], .dead]⟩
    | 65 => ⟨[.ref 0 0], [.box [.f .b, .t (.l 1)]]⟩
    | 69 => if m = 4 then ⟨[.no], [.box [.f .b, .t (.l 1), .f .b, .t (.l 1)]]⟩ else ⟨[.ref 0 0], [.box [.f .b, .t (.l 1)]]⟩
    | 71 => ⟨[.ref 0 0], [.box [.f .b, .t (.l 1)]]⟩
    | 73 => ⟨[.ref 0 0], [.box [.f .b, .t (.l 1)]]⟩
    | 77 => ⟨[.ref 0 0], [.box [.f .b, .t (.l 1)]]⟩
    | 56 => ⟨[.ref 0 0], [.box [.f .b, .t (.l 1), .f .b, .t (.l 1)]]⟩
    | 58 => ⟨[.ref 0 0], [.box [.f .b, .t (.l 1), .f .b, .t (.l 1)]]⟩
    | 59 => ⟨[.ref 0 0], [.box [.f .b, .t (.l 1), .f .b, .t (.l 1)]]⟩
    | 61 => ⟨[.ref 0 0], [.box [.f .b, .t (.l 1), .f .b, .t (.l 1)]]⟩
    | 76 => ⟨[.ref 0 0], [.box [.f .b, .t (.l 1), .f .b, .t (.l 1)]]⟩
    | 54 => ⟨[.ref 0 0], [.box [.f .b, .t (.l 1)]]⟩
    | 52 => ⟨[.ref 0 0, .ref 1 0], [.box [.f .b, .t (.l 1)], .box [.f .b, .t (.l 1)]]⟩
    | 70 => ⟨[.ref 0 0, .ref 1 0], [.box [.f .b, .t (.l 1)], .box [.f .b, .t (.l 1)]]⟩
    | 33 => ⟨[.f .b], [.sl 2]⟩
    | _ => ⟨[], []⟩),
  wr := (fun f => match f with
    | 7 => true
    | _ => false) }
theorem hm : PROG.follows .mixedOrders = true := by kernel_rfl
noncomputable abbrev K5n10 : Key := nodeKey PROG 5 true 10 [(1, none), (6, none), (9, none)] (0, 0)
noncomputable abbrev K8n2 : Key := nodeKey PROG 8 true 2 [(0, none), (1, none), (6, none), (10, none)] (0, 0)
noncomputable abbrev K15n4 : Key := nodeKey PROG 15 true 4 [(0, none), (1, none), (5, none)] (0, 0)
noncomputable abbrev K7n6 : Key := nodeKey PROG 7 true 6 [(6, none), (8, none), (20, none), (21, none), (22, none)] (0, 0)
noncomputable abbrev K23n4 : Key := nodeKey PROG 23 true 4 [(0, none), (1, none), (12, none), (13, none)] (0, 0)
noncomputable abbrev K10n4 : Key := nodeKey PROG 10 true 4 [(2, none), (9, none), (10, none), (11, none)] (0, 0)
noncomputable abbrev K30n6 : Key := nodeKey PROG 30 true 6 [(1, none), (4, none), (21, none), (22, none), (23, none)] (0, 0)
noncomputable abbrev K44n8 : Key := nodeKey PROG 44 true 8 [(4, none), (43, none), (44, none), (45, none)] (0, 0)
noncomputable abbrev K22n11m1 : Key := nodeKey PROG 22 true 11 [(1, none), (2, none), (5, some 1), (43, none), (44, none), (45, none)] (1, 0)
noncomputable abbrev K45n2 : Key := nodeKey PROG 45 true 2 [(0, none), (1, none), (7, none), (8, none)] (0, 0)
noncomputable abbrev K33n2m1 : Key := nodeKey PROG 33 true 2 [(0, none), (1, none), (2, none), (11, none), (12, none), (13, none)] (1, 0)
noncomputable abbrev K46n2 : Key := nodeKey PROG 46 true 2 [(1, none), (2, none), (3, none), (14, none), (15, none), (16, none)] (0, 0)
noncomputable abbrev K6n7 : Key := nodeKey PROG 6 true 7 [(0, none), (1, none), (2, none), (7, none), (10, none)] (0, 0)
noncomputable abbrev K19n6 : Key := nodeKey PROG 19 true 6 [(0, none), (2, none), (9, none)] (0, 0)
noncomputable abbrev K11n4 : Key := nodeKey PROG 11 true 4 [(0, none), (2, none), (3, none)] (0, 0)
noncomputable abbrev K13n3 : Key := nodeKey PROG 13 true 3 [(0, none), (6, none), (7, none)] (0, 0)
noncomputable abbrev K14n3 : Key := nodeKey PROG 14 true 3 [(0, none), (6, none), (7, none)] (0, 0)
noncomputable abbrev K26n6 : Key := nodeKey PROG 26 true 6 [(0, none), (1, none), (4, none), (5, none)] (0, 0)
noncomputable abbrev K13n11 : Key := nodeKey PROG 13 true 11 [(0, none), (6, none), (7, none), (8, none), (9, none), (10, none), (11, none)] (0, 0)
noncomputable abbrev K34n8 : Key := nodeKey PROG 34 true 8 [(2, none), (4, none), (5, none)] (0, 0)
noncomputable abbrev K27n2m1 : Key := nodeKey PROG 27 true 2 [(1, none), (2, none), (3, none), (4, none), (9, none)] (1, 0)
noncomputable abbrev K27n9m1 : Key := nodeKey PROG 27 true 9 [(1, none), (2, none), (3, none), (4, none), (9, none), (10, none), (11, none), (12, some 0), (13, none)] (1, 0)
noncomputable abbrev K51n2m2 : Key := nodeKey PROG 51 true 2 [(0, none), (3, none)] (2, 1002)
noncomputable abbrev K51n2m1 : Key := nodeKey PROG 51 true 2 [(0, none), (3, none)] (1, 2)
noncomputable abbrev K37n3m1 : Key := nodeKey PROG 37 true 3 [(0, none), (1, none), (2, none), (7, none), (28, none), (29, none), (30, none)] (1, 2)
noncomputable abbrev K37n7m1 : Key := nodeKey PROG 37 true 7 [(0, none), (1, none), (2, none), (7, none), (8, none), (9, none), (10, none), (28, none), (29, none), (30, none), (38, none), (39, none), (40, none)] (1, 2)
noncomputable abbrev K66n6 : Key := nodeKey PROG 66 true 6 [(0, none), (1, none), (5, none), (6, none), (20, none), (21, none), (22, none)] (0, 0)
noncomputable abbrev K68n4 : Key := nodeKey PROG 68 true 4 [(1, none), (5, none), (6, none), (13, none), (14, none), (15, none)] (0, 0)
noncomputable abbrev K67n6 : Key := nodeKey PROG 67 true 6 [(0, none), (1, none), (5, none)] (0, 0)
noncomputable abbrev K53n3 : Key := nodeKey PROG 53 true 3 [(0, none), (3, none), (4, none)] (0, 0)
theorem e5 (O : Orc) (eq : Bool) (q : List (List T)) (er : Bool) (r : List (List T)) : stepO PROG ann O (Key.call 5) [AV.t (T.lst 3 eq q), AV.t (T.lst 2 er r)] [] =
  (gdK none (O (Key.call 9) [] []) fun l =>
    gdK none l.head? fun x =>
      gdK none x.bool? fun b =>
        bif !b then some [T.bool false]
        else
          gdK none (O (Key.call 8) [AV.t (T.lst 3 eq q), AV.t (T.lst 2 er r)] []) fun l =>
            gdK none l.head? fun x =>
              gdK none (T.lst? 2 x) fun p =>
                gdK none l.tail.head? fun x =>
                  gdK none x.bool? fun b =>
                    gdK none l.tail.tail.head? fun x =>
                      gdK none (T.int? IntKind.i64 x) fun n =>
                        gdK none l.tail.tail.tail.head? fun x =>
                          gdK none (T.int? IntKind.i64 x) fun n_1 =>
                            bif bif !n == (0 : Int) then true else !b then
                              some [T.bool ((↑p.snd.length : Int) == (0 : Int))]
                            else
                              bif !(↑p.snd.length : Int) == (↑r.length : Int) then some [T.bool false]
                              else
                                O
                                  K5n10
                                  [AV.t (T.lst 2 er r), AV.t (T.lst 2 p.fst p.snd),
                                    AV.t (T.int IntKind.i64 (0 : Int))]
                                  []) := by kernel_rfl
theorem e9 (O : Orc)  : stepO PROG ann O (Key.call 9) [] [] =
  (gdK none
    (O (Key.call 8)
      [AV.t
          (T.lst 3 false
            [[T.lst 1 false [[T.int IntKind.i64 (2 : Int)], [T.int IntKind.i64 (3 : Int)]],
                T.int IntKind.i64 (3 : Int), T.int IntKind.i64 (12 : Int)]]),
        AV.t
          (T.lst 2 false
            [[T.int IntKind.i64 (1 : Int), T.int IntKind.i64 (5 : Int)],
              [T.int IntKind.i64 (-1000000 : Int), T.int IntKind.i64 (1000000 : Int)]])]
      [])
    fun l =>
    gdK none l.head? fun x =>
      gdK none (T.lst? 2 x) fun p =>
        gdK none l.tail.head? fun x =>
          gdK none x.bool? fun b =>
            gdK none l.tail.tail.head? fun x =>
              gdK none (T.int? IntKind.i64 x) fun n =>
                gdK none l.tail.tail.tail.head? fun x =>
                  gdK none (T.int? IntKind.i64 x) fun n_1 =>
                    gdK none
                      (askO (some (bif n == (0 : Int) then b else false))
                        (O (Key.call 15)
                          [AV.t (T.lst 2 p.fst p.snd),
                            AV.t
                              (T.lst 2 false
                                [[T.int IntKind.i64 (3 : Int), T.int IntKind.i64 (3 : Int)],
                                  [T.int IntKind.i64 (2 : Int), T.int IntKind.i64 (2 : Int)]])]
                          []))
                      fun l =>
                      gdK (some (bif n == (0 : Int) then b else false)) l.head? fun x =>
                        gdK (some (bif n == (0 : Int) then b else false)) x.bool? fun b_1 =>
                          some [T.bool (bif bif n == (0 : Int) then b else false then b_1 else false)]) := by kernel_rfl
theorem e8 (O : Orc) (ea0 : Bool) (a0 : List (List T)) (ea1 : Bool) (a1 : List (List T)) : stepO PROG ann O (Key.call 8) [(AV.t (T.lst 3 ea0 a0)), (AV.t (T.lst 2 ea1 a1))] [] =
  (O
    K8n2
    [AV.t (T.lst 3 ea0 a0), AV.t (T.lst 2 ea1 a1), AV.ref (Id.c 0) 0,
      AV.t (T.int IntKind.i64 (0 : Int))]
    [Blk.box [AV.t (T.int IntKind.i64 (0 : Int)), AV.t (T.int IntKind.i64 (0 : Int))]]) := by kernel_rfl
theorem e5n10 (O : Orc) (ev1 : Bool) (v1 : List (List T)) (ev6 : Bool) (v6 : List (List T)) (v9 : Int) : stepO PROG ann O K5n10 [(AV.t (T.lst 2 ev1 v1)), (AV.t (T.lst 2 ev6 v6)), (AV.t (T.int IntKind.i64 v9))] [] =
  (bif decide (v9 < (↑v1.length : Int)) then
    gdK none (if (0 : Int) ≤ v9 ∧ v9 < (↑v6.length : Int) then some () else none) fun x =>
      gdK none v6[v9.toNat]? fun l =>
        gdK none l.head? fun x =>
          gdK none (T.int? IntKind.i64 x) fun n =>
            gdK none (if (0 : Int) ≤ v9 ∧ v9 < (↑v1.length : Int) then some () else none) fun x =>
              gdK none v1[v9.toNat]? fun l =>
                gdK none l.head? fun x =>
                  gdK none (T.int? IntKind.i64 x) fun n_1 =>
                    gdK (some !decide (n < n_1)) (if (0 : Int) ≤ v9 ∧ v9 < (↑v6.length : Int) then some () else none)
                      fun x =>
                      gdK (some !decide (n < n_1)) v6[v9.toNat]? fun l =>
                        gdK (some !decide (n < n_1)) (List.drop 1 l).head? fun x =>
                          gdK (some !decide (n < n_1)) (T.int? IntKind.i64 x) fun n_2 =>
                            gdK (some !decide (n < n_1))
                              (if (0 : Int) ≤ v9 ∧ v9 < (↑v1.length : Int) then some () else none) fun x =>
                              gdK (some !decide (n < n_1)) v1[v9.toNat]? fun l =>
                                gdK (some !decide (n < n_1)) (List.drop 1 l).head? fun x =>
                                  gdK (some !decide (n < n_1)) (T.int? IntKind.i64 x) fun n_3 =>
                                    gdK (some !bif decide (n < n_1) then true else decide (n_2 > n_3))
                                      (if (0 : Int) ≤ v9 ∧ v9 < (↑v6.length : Int) then some () else none) fun x =>
                                      gdK (some !bif decide (n < n_1) then true else decide (n_2 > n_3)) v6[v9.toNat]?
                                        fun l =>
                                        gdK (some !bif decide (n < n_1) then true else decide (n_2 > n_3)) l.head?
                                          fun x =>
                                          gdK (some !bif decide (n < n_1) then true else decide (n_2 > n_3))
                                            (T.int? IntKind.i64 x) fun n_4 =>
                                            gdK (some !bif decide (n < n_1) then true else decide (n_2 > n_3))
                                              (if (0 : Int) ≤ v9 ∧ v9 < (↑v6.length : Int) then some () else none)
                                              fun x =>
                                              gdK (some !bif decide (n < n_1) then true else decide (n_2 > n_3))
                                                v6[v9.toNat]? fun l =>
                                                gdK (some !bif decide (n < n_1) then true else decide (n_2 > n_3))
                                                  (List.drop 1 l).head? fun x =>
                                                  gdK (some !bif decide (n < n_1) then true else decide (n_2 > n_3))
                                                    (T.int? IntKind.i64 x) fun n_5 =>
                                                    bif
                                                        bif bif decide (n < n_1) then true else decide (n_2 > n_3) then
                                                          true
                                                        else decide (n_4 > n_5) then
                                                      some [T.bool false]
                                                    else
                                                      O
                                                        K5n10
                                                        [AV.t (T.lst 2 ev1 v1), AV.t (T.lst 2 ev6 v6),
                                                          AV.t (T.int IntKind.i64 (IntKind.i64.wrap (v9 + (1 : Int))))]
                                                        []
  else some [T.bool true]) := by kernel_rfl
theorem e15 (O : Orc) (ea0 : Bool) (a0 : List (List T)) (ea1 : Bool) (a1 : List (List T)) : stepO PROG ann O (Key.call 15) [(AV.t (T.lst 2 ea0 a0)), (AV.t (T.lst 2 ea1 a1))] [] =
  (bif !(↑a0.length : Int) == (↑a1.length : Int) then some [T.bool false]
  else
    O
      K15n4
      [AV.t (T.lst 2 ea0 a0), AV.t (T.lst 2 ea1 a1), AV.t (T.int IntKind.i64 (0 : Int))] []) := by kernel_rfl
theorem e8n2 (O : Orc) (ev0 : Bool) (v0 : List (List T)) (ev1 : Bool) (v1 : List (List T)) (v10 : Int) (c0_0 : Int) (c0_1 : Int) : stepO PROG ann O K8n2 [(AV.t (T.lst 3 ev0 v0)), (AV.t (T.lst 2 ev1 v1)), (AV.ref (Id.c 0) 0), (AV.t (T.int IntKind.i64 v10))] [(Blk.box [(AV.t (T.int IntKind.i64 c0_0)), (AV.t (T.int IntKind.i64 c0_1))])] =
  (bif decide (v10 < (200 : Int)) then
    gdK none (O (Key.call 7) [AV.t (T.lst 3 ev0 v0), AV.t (T.lst 2 ev1 v1)] []) fun l =>
      gdK none l.head? fun x =>
        gdK none (T.lst? 2 x) fun p =>
          gdK none l.tail.head? fun x =>
            gdK none x.bool? fun b =>
              gdK none l.tail.tail.head? fun x =>
                gdK none (T.int? IntKind.i64 x) fun n =>
                  gdK none l.tail.tail.tail.head? fun x =>
                    gdK none (T.int? IntKind.i64 x) fun n_1 =>
                      bif bif !n == (0 : Int) then true else !b then
                        some [T.emp true, T.bool false, T.int IntKind.i64 n, T.int IntKind.i64 n_1]
                      else
                        gdK none
                          (O (Key.call 23) [AV.t (T.lst 2 p.fst p.snd), AV.t (T.lst 2 ev1 v1)] [])
                          fun l =>
                          gdK none l.head? fun x =>
                            gdK none x.bool? fun b =>
                              bif b then
                                some
                                  [T.lst 2 p.fst p.snd, T.bool true, T.int IntKind.i64 (0 : Int),
                                    T.int IntKind.i64 (0 : Int)]
                              else
                                O
                                  K8n2
                                  [AV.t (T.lst 3 ev0 v0), AV.t (T.lst 2 p.fst p.snd),
                                    AV.ref (Id.c 0) 0,
                                    AV.t (T.int IntKind.i64 (IntKind.i64.wrap (v10 + (1 : Int))))]
                                  [Blk.box [AV.t (T.int IntKind.i64 c0_0), AV.t (T.int IntKind.i64 c0_1)]]
  else some [T.lst 2 ev1 v1, T.bool true, T.int IntKind.i64 (0 : Int), T.int IntKind.i64 (0 : Int)]) := by kernel_rfl
theorem e15n4 (O : Orc) (ev0 : Bool) (v0 : List (List T)) (ev1 : Bool) (v1 : List (List T)) (v5 : Int) : stepO PROG ann O K15n4 [(AV.t (T.lst 2 ev0 v0)), (AV.t (T.lst 2 ev1 v1)), (AV.t (T.int IntKind.i64 v5))] [] =
  (bif decide (v5 < (↑v0.length : Int)) then
    gdK none (if (0 : Int) ≤ v5 ∧ v5 < (↑v0.length : Int) then some () else none) fun x =>
      gdK none v0[v5.toNat]? fun l =>
        gdK none l.head? fun x =>
          gdK none l.tail.head? fun x_1 =>
            gdK none (T.int? IntKind.i64 x) fun n =>
              gdK none (T.int? IntKind.i64 x_1) fun n_1 =>
                gdK none (if (0 : Int) ≤ v5 ∧ v5 < (↑v1.length : Int) then some () else none) fun x =>
                  gdK none v1[v5.toNat]? fun l =>
                    gdK none l.head? fun x =>
                      gdK none l.tail.head? fun x_2 =>
                        gdK none (T.int? IntKind.i64 x) fun n_2 =>
                          gdK none (T.int? IntKind.i64 x_2) fun n_3 =>
                            bif !(n == n_2 && (n_1 == n_3 && true)) then some [T.bool false]
                            else
                              O
                                K15n4
                                [AV.t (T.lst 2 ev0 v0), AV.t (T.lst 2 ev1 v1),
                                  AV.t (T.int IntKind.i64 (IntKind.i64.wrap (v5 + (1 : Int))))]
                                []
  else some [T.bool true]) := by kernel_rfl
theorem e7 (O : Orc) (ea0 : Bool) (a0 : List (List T)) (ea1 : Bool) (a1 : List (List T)) : stepO PROG ann O (Key.call 7) [(AV.t (T.lst 3 ea0 a0)), (AV.t (T.lst 2 ea1 a1))] [] =
  (gdK none (O (Key.call 20) [AV.t (T.lst 3 ea0 a0), AV.t (T.lst 2 ea1 a1)] []) fun l =>
    gdK none l.head? fun x =>
      gdK none (T.int? IntKind.i64 x) fun n =>
        gdK none l.tail.head? fun x =>
          gdK none (T.int? IntKind.i64 x) fun n_1 =>
            bif !n == (0 : Int) then some [T.emp true, T.bool false, T.int IntKind.i64 n, T.int IntKind.i64 n_1]
            else
              gdK none (O (Key.call 21) [AV.t (T.lst 2 ea1 a1)] []) fun l =>
                gdK none l.head? fun x =>
                  gdK none (T.lst? 2 x) fun p =>
                    O
                      K7n6
                      [AV.ref (Id.c 0) 0, AV.own (Id.c 1), AV.t (T.lst 3 ea0 a0),
                        AV.t (T.int IntKind.i64 (↑a0.length : Int)), AV.t (T.int IntKind.i64 (0 : Int))]
                      [Blk.box [AV.t (T.int IntKind.i64 (0 : Int)), AV.t (T.int IntKind.i64 (0 : Int))],
                        Blk.sl false 2 p.fst p.snd]) := by kernel_rfl
theorem e23 (O : Orc) (ea0 : Bool) (a0 : List (List T)) (ea1 : Bool) (a1 : List (List T)) : stepO PROG ann O (Key.call 23) [(AV.t (T.lst 2 ea0 a0)), (AV.t (T.lst 2 ea1 a1))] [] =
  (bif !(↑a0.length : Int) == (↑a1.length : Int) then some [T.bool false]
  else
    O
      K23n4
      [AV.t (T.lst 2 ea0 a0), AV.t (T.lst 2 ea1 a1), AV.t (T.int IntKind.i64 (↑a0.length : Int)),
        AV.t (T.int IntKind.i64 (0 : Int))]
      []) := by kernel_rfl
theorem e20 (O : Orc) (ea0 : Bool) (a0 : List (List T)) (ea1 : Bool) (a1 : List (List T)) : stepO PROG ann O (Key.call 20) [(AV.t (T.lst 3 ea0 a0)), (AV.t (T.lst 2 ea1 a1))] [] =
  (gdK none (O (Key.call 10) [AV.t (T.lst 2 ea1 a1)] []) fun l =>
    gdK none l.head? fun x =>
      gdK none (T.int? IntKind.i64 x) fun n =>
        gdK none l.tail.head? fun x =>
          gdK none (T.int? IntKind.i64 x) fun n_1 =>
            bif !n == (0 : Int) then some [T.int IntKind.i64 n, T.int IntKind.i64 n_1]
            else
              gdK none
                (O (Key.call 30) [AV.t (T.lst 3 ea0 a0), AV.t (T.int IntKind.i64 (↑a1.length : Int))] [])
                fun l =>
                gdK none l.head? fun x =>
                  gdK none (T.int? IntKind.i64 x) fun n =>
                    gdK none l.tail.head? fun x =>
                      gdK none (T.int? IntKind.i64 x) fun n_2 => some [T.int IntKind.i64 n, T.int IntKind.i64 n_2]) := by kernel_rfl
theorem e21 (O : Orc) (ea0 : Bool) (a0 : List (List T)) : stepO PROG ann O (Key.call 21) [(AV.t (T.lst 2 ea0 a0))] [] =
  (bif ea0 then some [T.emp true]
  else gdK none (small 16 (0 + a0.length)) fun x => some [T.lst 2 false a0]) := by kernel_rfl
theorem e7n6 (O : Orc) (ev20 : Bool) (v20 : List (List T)) (v21 : Int) (v22 : Int) (c0_0 : Int) (c0_1 : Int) (ec1 : Bool) (c1 : List (List T)) : stepO PROG ann O K7n6 [(AV.ref (Id.c 0) 0), (AV.own (Id.c 1)), (AV.t (T.lst 3 ev20 v20)), (AV.t (T.int IntKind.i64 v21)), (AV.t (T.int IntKind.i64 v22))] [(Blk.box [(AV.t (T.int IntKind.i64 c0_0)), (AV.t (T.int IntKind.i64 c0_1))]), (Blk.sl false 2 ec1 c1)] =
  (bif decide (v22 < v21) then
    gdK none (if (0 : Int) ≤ v22 ∧ v22 < (↑v20.length : Int) then some () else none) fun x =>
      gdK none v20[v22.toNat]? fun l =>
        gdK none l.head? fun x =>
          gdK none l.tail.head? fun x_1 =>
            gdK none l.tail.tail.head? fun x_2 =>
              gdK none (T.lst? 1 x) fun p =>
                gdK none (T.int? IntKind.i64 x_1) fun n =>
                  gdK none (T.int? IntKind.i64 x_2) fun n_1 =>
                    gdK none
                      (O (Key.call 22)
                        [AV.agg
                            [AV.t (T.lst 1 p.fst p.snd), AV.t (T.int IntKind.i64 n),
                              AV.t (T.int IntKind.i64 n_1)],
                          AV.own (Id.c 0)]
                        [Blk.sl false 2 ec1 c1])
                      fun l =>
                      gdK none l.head? fun x =>
                        gdK none x.bool? fun b =>
                          gdK none ((List.drop 1 l).head?.bind fun z => T.lst? 2 z) fun p =>
                            bif !b then
                              some [T.emp true, T.bool false, T.int IntKind.i64 (0 : Int), T.int IntKind.i64 (0 : Int)]
                            else
                              O
                                K7n6
                                [AV.ref (Id.c 0) 0, AV.own (Id.c 1),
                                  AV.t (T.lst 3 ev20 v20), AV.t (T.int IntKind.i64 v21),
                                  AV.t (T.int IntKind.i64 (IntKind.i64.wrap (v22 + (1 : Int))))]
                                [Blk.box [AV.t (T.int IntKind.i64 c0_0), AV.t (T.int IntKind.i64 c0_1)],
                                  Blk.sl false 2 p.fst p.snd]
  else some [T.lst 2 ec1 c1, T.bool true, T.int IntKind.i64 (0 : Int), T.int IntKind.i64 (0 : Int)]) := by kernel_rfl
theorem e23n4 (O : Orc) (ev0 : Bool) (v0 : List (List T)) (ev1 : Bool) (v1 : List (List T)) (v12 : Int) (v13 : Int) : stepO PROG ann O K23n4 [(AV.t (T.lst 2 ev0 v0)), (AV.t (T.lst 2 ev1 v1)), (AV.t (T.int IntKind.i64 v12)), (AV.t (T.int IntKind.i64 v13))] [] =
  (bif decide (v13 < v12) then
    gdK none (if (0 : Int) ≤ v13 ∧ v13 < (↑v0.length : Int) then some () else none) fun x =>
      gdK none v0[v13.toNat]? fun l =>
        gdK none l.head? fun x =>
          gdK none l.tail.head? fun x_1 =>
            gdK none (T.int? IntKind.i64 x) fun n =>
              gdK none (T.int? IntKind.i64 x_1) fun n_1 =>
                gdK none (if (0 : Int) ≤ v13 ∧ v13 < (↑v1.length : Int) then some () else none) fun x =>
                  gdK none v1[v13.toNat]? fun l =>
                    gdK none l.head? fun x =>
                      gdK none l.tail.head? fun x_2 =>
                        gdK none (T.int? IntKind.i64 x) fun n_2 =>
                          gdK none (T.int? IntKind.i64 x_2) fun n_3 =>
                            bif !(n == n_2 && (n_1 == n_3 && true)) then some [T.bool false]
                            else
                              O
                                K23n4
                                [AV.t (T.lst 2 ev0 v0), AV.t (T.lst 2 ev1 v1),
                                  AV.t (T.int IntKind.i64 v12),
                                  AV.t (T.int IntKind.i64 (IntKind.i64.wrap (v13 + (1 : Int))))]
                                []
  else some [T.bool true]) := by kernel_rfl
theorem e10 (O : Orc) (ea0 : Bool) (a0 : List (List T)) : stepO PROG ann O (Key.call 10) [(AV.t (T.lst 2 ea0 a0))] [] =
  (bif decide ((↑a0.length : Int) > (12 : Int)) then some [T.int IntKind.i64 (2 : Int), T.int IntKind.i64 (0 : Int)]
  else
    O
      K10n4
      [AV.ref (Id.c 0) 0, AV.t (T.lst 2 ea0 a0), AV.t (T.int IntKind.i64 (↑a0.length : Int)),
        AV.t (T.int IntKind.i64 (0 : Int))]
      [Blk.box [AV.t (T.int IntKind.i64 (0 : Int)), AV.t (T.int IntKind.i64 (0 : Int))]]) := by kernel_rfl
theorem e30 (O : Orc) (ea0 : Bool) (a0 : List (List T)) (a1 : Int) : stepO PROG ann O (Key.call 30) [(AV.t (T.lst 3 ea0 a0)), (AV.t (T.int IntKind.i64 a1))] [] =
  (bif bif decide (a1 < (0 : Int)) then true else decide (a1 > (12 : Int)) then
    some [T.int IntKind.i64 (3 : Int), T.int IntKind.i64 (-1 : Int)]
  else
    bif decide ((↑a0.length : Int) > (40 : Int)) then some [T.int IntKind.i64 (2 : Int), T.int IntKind.i64 (0 : Int)]
    else
      O
        K30n6
        [AV.t (T.int IntKind.i64 a1), AV.ref (Id.c 0) 0, AV.t (T.lst 3 ea0 a0),
          AV.t (T.int IntKind.i64 (↑a0.length : Int)), AV.t (T.int IntKind.i64 (0 : Int))]
        [Blk.box [AV.t (T.int IntKind.i64 (0 : Int)), AV.t (T.int IntKind.i64 (0 : Int))]]) := by kernel_rfl
theorem e10n4 (O : Orc) (ev9 : Bool) (v9 : List (List T)) (v10 : Int) (v11 : Int) (c0_0 : Int) (c0_1 : Int) : stepO PROG ann O K10n4 [(AV.ref (Id.c 0) 0), (AV.t (T.lst 2 ev9 v9)), (AV.t (T.int IntKind.i64 v10)), (AV.t (T.int IntKind.i64 v11))] [(Blk.box [(AV.t (T.int IntKind.i64 c0_0)), (AV.t (T.int IntKind.i64 c0_1))])] =
  (bif decide (v11 < v10) then
    gdK none (if (0 : Int) ≤ v11 ∧ v11 < (↑v9.length : Int) then some () else none) fun x =>
      gdK none v9[v11.toNat]? fun l =>
        gdK none l.head? fun x =>
          gdK none l.tail.head? fun x_1 =>
            gdK none (T.int? IntKind.i64 x) fun n =>
              gdK none (T.int? IntKind.i64 x_1) fun n_1 =>
                bif
                    bif
                        bif bif decide (n < (-1000000 : Int)) then true else decide (n > (1000000 : Int)) then true
                        else decide (n_1 < (-1000000 : Int)) then
                      true
                    else decide (n_1 > (1000000 : Int)) then
                  some [T.int IntKind.i64 (3 : Int), T.int IntKind.i64 v11]
                else
                  bif decide (n > n_1) then some [T.int IntKind.i64 (5 : Int), T.int IntKind.i64 v11]
                  else
                    O
                      K10n4
                      [AV.ref (Id.c 0) 0, AV.t (T.lst 2 ev9 v9), AV.t (T.int IntKind.i64 v10),
                        AV.t (T.int IntKind.i64 (IntKind.i64.wrap (v11 + (1 : Int))))]
                      [Blk.box [AV.t (T.int IntKind.i64 c0_0), AV.t (T.int IntKind.i64 c0_1)]]
  else some [T.int IntKind.i64 (0 : Int), T.int IntKind.i64 (0 : Int)]) := by kernel_rfl
theorem e30n6 (O : Orc) (v1 : Int) (ev21 : Bool) (v21 : List (List T)) (v22 : Int) (v23 : Int) (c0_0 : Int) (c0_1 : Int) : stepO PROG ann O K30n6 [(AV.t (T.int IntKind.i64 v1)), (AV.ref (Id.c 0) 0), (AV.t (T.lst 3 ev21 v21)), (AV.t (T.int IntKind.i64 v22)), (AV.t (T.int IntKind.i64 v23))] [(Blk.box [(AV.t (T.int IntKind.i64 c0_0)), (AV.t (T.int IntKind.i64 c0_1))])] =
  (bif decide (v23 < v22) then
    gdK none (if (0 : Int) ≤ v23 ∧ v23 < (↑v21.length : Int) then some () else none) fun x =>
      gdK none v21[v23.toNat]? fun l =>
        gdK none l.head? fun x =>
          gdK none l.tail.head? fun x_1 =>
            gdK none l.tail.tail.head? fun x_2 =>
              gdK none (T.lst? 1 x) fun p =>
                gdK none (T.int? IntKind.i64 x_1) fun n =>
                  gdK none (T.int? IntKind.i64 x_2) fun n_1 =>
                    gdK none
                      (O (Key.call 44)
                        [AV.agg
                            [AV.t (T.lst 1 p.fst p.snd), AV.t (T.int IntKind.i64 n),
                              AV.t (T.int IntKind.i64 n_1)],
                          AV.t (T.int IntKind.i64 v1)]
                        [])
                      fun l =>
                      gdK none l.head? fun x =>
                        gdK none (T.int? IntKind.i64 x) fun n =>
                          gdK none l.tail.head? fun x =>
                            gdK none (T.int? IntKind.i64 x) fun n_2 =>
                              bif !n == (0 : Int) then some [T.int IntKind.i64 n, T.int IntKind.i64 v23]
                              else
                                O
                                  K30n6
                                  [AV.t (T.int IntKind.i64 v1), AV.ref (Id.c 0) 0,
                                    AV.t (T.lst 3 ev21 v21), AV.t (T.int IntKind.i64 v22),
                                    AV.t (T.int IntKind.i64 (IntKind.i64.wrap (v23 + (1 : Int))))]
                                  [Blk.box [AV.t (T.int IntKind.i64 c0_0), AV.t (T.int IntKind.i64 c0_1)]]
  else some [T.int IntKind.i64 (0 : Int), T.int IntKind.i64 (0 : Int)]) := by kernel_rfl
theorem e44 (O : Orc) (ea0_0 : Bool) (a0_0 : List (List T)) (a0_1 : Int) (a0_2 : Int) (a1 : Int) : stepO PROG ann O (Key.call 44) [(AV.agg [(AV.t (T.lst 1 ea0_0 a0_0)), (AV.t (T.int IntKind.i64 a0_1)), (AV.t (T.int IntKind.i64 a0_2))]), (AV.t (T.int IntKind.i64 a1))] [] =
  (bif bif decide (a1 < (0 : Int)) then true else decide (a1 > (12 : Int)) then
    some [T.int IntKind.i64 (3 : Int), T.int IntKind.i64 (-1 : Int)]
  else
    bif bif bif !a0_1 == (1 : Int) then !a0_1 == (2 : Int) else false then !a0_1 == (3 : Int) else false then
      some [T.int IntKind.i64 (4 : Int), T.int IntKind.i64 (0 : Int)]
    else
      bif decide ((↑a0_0.length : Int) > a1) then some [T.int IntKind.i64 (9 : Int), T.int IntKind.i64 (0 : Int)]
      else
        gdK none (O (Key.call 62) [AV.t (T.lst 1 ea0_0 a0_0)] []) fun l =>
          gdK none l.head? fun x =>
            gdK none (T.lst? 1 x) fun p =>
              gdK none (small 8 (p.snd.length + [[T.int IntKind.i64 a0_2]].length)) fun x =>
                O
                  K44n8
                  [AV.ref (Id.c 0) 0, AV.own (Id.c 1),
                    AV.t (T.int IntKind.i64 (↑(p.snd ++ [[T.int IntKind.i64 a0_2]]).length : Int)),
                    AV.t (T.int IntKind.i64 (0 : Int))]
                  [Blk.box [AV.t (T.int IntKind.i64 (0 : Int)), AV.t (T.int IntKind.i64 (0 : Int))],
                    Blk.sl false 1 (p.fst && false) (p.snd ++ [[T.int IntKind.i64 a0_2]])]) := by kernel_rfl
theorem e62 (O : Orc) (ea0 : Bool) (a0 : List (List T)) : stepO PROG ann O (Key.call 62) [(AV.t (T.lst 1 ea0 a0))] [] =
  (bif ea0 then some [T.emp true]
  else gdK none (small 8 (0 + a0.length)) fun x => some [T.lst 1 false a0]) := by kernel_rfl
theorem e44n8 (O : Orc) (v44 : Int) (v45 : Int) (c0_0 : Int) (c0_1 : Int) (ec1 : Bool) (c1 : List (List T)) : stepO PROG ann O K44n8 [(AV.ref (Id.c 0) 0), (AV.own (Id.c 1)), (AV.t (T.int IntKind.i64 v44)), (AV.t (T.int IntKind.i64 v45))] [(Blk.box [(AV.t (T.int IntKind.i64 c0_0)), (AV.t (T.int IntKind.i64 c0_1))]), (Blk.sl false 1 ec1 c1)] =
  (bif decide (v45 < v44) then
    gdK none (if (0 : Int) ≤ v45 ∧ v45 < (↑c1.length : Int) then some () else none) fun x =>
      gdK none c1[v45.toNat]? fun l =>
        gdK none l.head? fun x =>
          gdK none (T.int? IntKind.i64 x) fun n =>
            gdK none (O (Key.call 63) [AV.t (T.int IntKind.i64 n)] []) fun l =>
              gdK none l.head? fun x =>
                gdK none x.bool? fun b =>
                  bif !b then some [T.int IntKind.i64 (3 : Int), T.int IntKind.i64 v45]
                  else
                    O
                      K44n8
                      [AV.ref (Id.c 0) 0, AV.own (Id.c 1), AV.t (T.int IntKind.i64 v44),
                        AV.t (T.int IntKind.i64 (IntKind.i64.wrap (v45 + (1 : Int))))]
                      [Blk.box [AV.t (T.int IntKind.i64 c0_0), AV.t (T.int IntKind.i64 c0_1)],
                        Blk.sl false 1 ec1 c1]
  else some [T.int IntKind.i64 (0 : Int), T.int IntKind.i64 (0 : Int)]) := by kernel_rfl
theorem e63 (O : Orc) (a0 : Int) : stepO PROG ann O (Key.call 63) [(AV.t (T.int IntKind.i64 a0))] [] =
  (some [T.bool (bif decide (a0 ≥ (-1000000 : Int)) then decide (a0 ≤ (1000000 : Int)) else false)]) := by kernel_rfl
theorem e22 (O : Orc) (eo : Bool) (of : List (List T)) (kd tv : Int) (ec : Bool) (c : List (List T)) : stepO PROG ann O (Key.call 22) [AV.agg [AV.t (T.lst 1 eo of), AV.t (T.int .i64 kd), AV.t (T.int .i64 tv)], AV.own (Id.c 0)] [Blk.sl false 2 ec c] =
  (bif kd == (2 : Int) then
    gdK none (O (Key.call 31) [AV.t (T.lst 1 eo of), AV.fn 32 [] []] []) fun l =>
      gdK none l.head? fun x =>
        gdK none x.bool? fun b =>
          bif !b then
            some
              [T.bool
                  (bif decide (IntKind.i64.wrap (tv - (1 : Int)) ≥ (0 : Int)) then
                    bif !kd == (3 : Int) then true else IntKind.i64.wrap (tv - (1 : Int)) == (0 : Int)
                  else false),
                T.lst 2 ec c]
          else
            gdK none
              (O (Key.call 33)
                [AV.t (T.lst 1 eo of), AV.t (T.int IntKind.i64 (IntKind.i64.wrap (tv - (1 : Int)))),
                  AV.own (Id.c 0)]
                [Blk.sl false 2 ec c])
              fun l =>
              gdK none l.head? fun x =>
                gdK none x.bool? fun b =>
                  gdK none ((List.drop 1 l).head?.bind fun z => T.lst? 2 z) fun p =>
                    bif !b then some [T.bool false, T.lst 2 p.fst p.snd]
                    else
                      bif !kd == (3 : Int) then some [T.bool true, T.lst 2 p.fst p.snd]
                      else
                        O
                          K22n11m1
                          [AV.own (Id.c 0), AV.ref (Id.c 1) 0, AV.own (Id.c 2),
                            AV.t (T.lst 1 eo of), AV.t (T.int IntKind.i64 (↑of.length : Int)),
                            AV.t (T.int IntKind.i64 (0 : Int))]
                          [Blk.sl false 2 p.fst p.snd,
                            Blk.box
                              [AV.t (T.lst 1 eo of), AV.t (T.int IntKind.i64 kd),
                                AV.t (T.int IntKind.i64 (IntKind.i64.wrap (tv - (1 : Int))))],
                            Blk.sl false 1 true []]
  else
    gdK none (O (Key.call 31) [AV.t (T.lst 1 eo of), AV.fn 32 [] []] []) fun l =>
      gdK none l.head? fun x =>
        gdK none x.bool? fun b =>
          bif !b then
            some
              [T.bool (bif decide (tv ≥ (0 : Int)) then bif !kd == (3 : Int) then true else tv == (0 : Int) else false),
                T.lst 2 ec c]
          else
            gdK none
              (O (Key.call 33)
                [AV.t (T.lst 1 eo of), AV.t (T.int IntKind.i64 tv), AV.own (Id.c 0)]
                [Blk.sl false 2 ec c])
              fun l =>
              gdK none l.head? fun x =>
                gdK none x.bool? fun b =>
                  gdK none ((List.drop 1 l).head?.bind fun z => T.lst? 2 z) fun p =>
                    bif !b then some [T.bool false, T.lst 2 p.fst p.snd]
                    else
                      bif !kd == (3 : Int) then some [T.bool true, T.lst 2 p.fst p.snd]
                      else
                        O
                          K22n11m1
                          [AV.own (Id.c 0), AV.ref (Id.c 1) 0, AV.own (Id.c 2),
                            AV.t (T.lst 1 eo of), AV.t (T.int IntKind.i64 (↑of.length : Int)),
                            AV.t (T.int IntKind.i64 (0 : Int))]
                          [Blk.sl false 2 p.fst p.snd,
                            Blk.box
                              [AV.t (T.lst 1 eo of), AV.t (T.int IntKind.i64 kd), AV.t (T.int IntKind.i64 tv)],
                            Blk.sl false 1 true []]) := by kernel_rfl
theorem e31 (O : Orc) (ea0 : Bool) (a0 : List (List T)) : stepO PROG ann O (Key.call 31) [(AV.t (T.lst 1 ea0 a0)), (AV.fn 32 [] [])] [] =
  (gdK none (O (Key.call 45) [AV.t (T.lst 1 ea0 a0), AV.fn 32 [] []] []) fun l =>
    gdK none l.head? fun x => gdK none (T.int? IntKind.i64 x) fun n => some [T.bool (decide (n ≥ (0 : Int)))]) := by kernel_rfl
theorem e22n11 (O : Orc) (ev43 : Bool) (v43 : List (List T)) (v44 : Int) (v45 : Int) (ec0 : Bool) (c0 : List (List T)) (ec1_0 : Bool) (c1_0 : List (List T)) (c1_1 : Int) (c1_2 : Int) (ec2 : Bool) (c2 : List (List T)) : stepO PROG ann O K22n11m1 [(AV.own (Id.c 0)), (AV.ref (Id.c 1) 0), (AV.own (Id.c 2)), (AV.t (T.lst 1 ev43 v43)), (AV.t (T.int IntKind.i64 v44)), (AV.t (T.int IntKind.i64 v45))] [(Blk.sl false 2 ec0 c0), (Blk.box [(AV.t (T.lst 1 ec1_0 c1_0)), (AV.t (T.int IntKind.i64 c1_1)), (AV.t (T.int IntKind.i64 c1_2))]), (Blk.sl false 1 ec2 c2)] =
  (bif decide (v45 < v44) then
    gdK none (if (0 : Int) ≤ v45 ∧ v45 < (↑v43.length : Int) then some () else none) fun x =>
      gdK none v43[v45.toNat]? fun l =>
        gdK none l.head? fun x =>
          gdK none (T.int? IntKind.i64 x) fun n =>
            gdK none (small 8 (c2.length + [[T.int IntKind.i64 (IntKind.i64.wrap ((0 : Int) - n))]].length))
              fun x =>
              O
                K22n11m1
                [AV.own (Id.c 0), AV.ref (Id.c 1) 0, AV.own (Id.c 2),
                  AV.t (T.lst 1 ev43 v43), AV.t (T.int IntKind.i64 v44),
                  AV.t (T.int IntKind.i64 (IntKind.i64.wrap (v45 + (1 : Int))))]
                [Blk.sl false 2 ec0 c0,
                  Blk.box
                    [AV.t (T.lst 1 ec1_0 c1_0), AV.t (T.int IntKind.i64 c1_1), AV.t (T.int IntKind.i64 c1_2)],
                  Blk.sl false 1 (ec2 && false) (c2 ++ [[T.int IntKind.i64 (IntKind.i64.wrap ((0 : Int) - n))]])]
  else
    gdK none
      (O (Key.call 33)
        [AV.t (T.lst 1 ec2 c2), AV.t (T.int IntKind.i64 (IntKind.i64.wrap ((0 : Int) - c1_2))),
          AV.own (Id.c 0)]
        [Blk.sl false 2 ec0 c0])
      fun l =>
      gdK none l.head? fun x =>
        gdK none x.bool? fun b =>
          gdK none ((List.drop 1 l).head?.bind fun z => T.lst? 2 z) fun p =>
            some [T.bool b, T.lst 2 p.fst p.snd]) := by kernel_rfl
theorem e45 (O : Orc) (ea0 : Bool) (a0 : List (List T)) : stepO PROG ann O (Key.call 45) [(AV.t (T.lst 1 ea0 a0)), (AV.fn 32 [] [])] [] =
  (O
    K45n2
    [AV.t (T.lst 1 ea0 a0), AV.fn 32 [] [], AV.t (T.int IntKind.i64 (↑a0.length : Int)),
      AV.t (T.int IntKind.i64 (0 : Int))]
    []) := by kernel_rfl
theorem e45n2 (O : Orc) (ev0 : Bool) (v0 : List (List T)) (v7 : Int) (v8 : Int) : stepO PROG ann O K45n2 [(AV.t (T.lst 1 ev0 v0)), (AV.fn 32 [] []), (AV.t (T.int IntKind.i64 v7)), (AV.t (T.int IntKind.i64 v8))] [] =
  (bif decide (v8 < v7) then
    gdK none (if (0 : Int) ≤ v8 ∧ v8 < (↑v0.length : Int) then some () else none) fun x =>
      gdK none v0[v8.toNat]? fun l =>
        gdK none l.head? fun x =>
          gdK none (T.int? IntKind.i64 x) fun n =>
            gdK none (O (Key.call 32) [AV.t (T.int IntKind.i64 n)] []) fun l =>
              gdK none l.head? fun x =>
                gdK none x.bool? fun b =>
                  bif b then some [T.int IntKind.i64 v8]
                  else
                    O
                      K45n2
                      [AV.t (T.lst 1 ev0 v0), AV.fn 32 [] [], AV.t (T.int IntKind.i64 v7),
                        AV.t (T.int IntKind.i64 (IntKind.i64.wrap (v8 + (1 : Int))))]
                      []
  else some [T.int IntKind.i64 (-1 : Int)]) := by kernel_rfl
theorem e32 (O : Orc) (a0 : Int) : stepO PROG ann O (Key.call 32) [(AV.t (T.int IntKind.i64 a0))] [] =
  (some [T.bool !a0 == (0 : Int)]) := by kernel_rfl
theorem e33 (O : Orc) (eo : Bool) (of : List (List T)) (tv : Int) (ec : Bool) (c : List (List T)) : stepO PROG ann O (Key.call 33) [AV.t (T.lst 1 eo of), AV.t (T.int .i64 tv), AV.own (Id.c 0)] [Blk.sl false 2 ec c] =
  (O
    K33n2m1
    [AV.t (T.lst 1 eo of), AV.t (T.int IntKind.i64 tv), AV.own (Id.c 0), AV.t (T.lst 1 eo of),
      AV.t (T.int IntKind.i64 (↑of.length : Int)), AV.t (T.int IntKind.i64 (0 : Int))]
    [Blk.sl false 2 ec c]) := by kernel_rfl
theorem e33n2 (O : Orc) (ev0 : Bool) (v0 : List (List T)) (v1 : Int) (ev11 : Bool) (v11 : List (List T)) (v12 : Int) (v13 : Int) (ec0 : Bool) (c0 : List (List T)) : stepO PROG ann O K33n2m1 [(AV.t (T.lst 1 ev0 v0)), (AV.t (T.int IntKind.i64 v1)), (AV.own (Id.c 0)), (AV.t (T.lst 1 ev11 v11)), (AV.t (T.int IntKind.i64 v12)), (AV.t (T.int IntKind.i64 v13))] [(Blk.sl false 2 ec0 c0)] =
  (bif decide (v13 < v12) then
    gdK none (if (0 : Int) ≤ v13 ∧ v13 < (↑v11.length : Int) then some () else none) fun x =>
      gdK none v11[v13.toNat]? fun l =>
        gdK none l.head? fun x =>
          gdK none (T.int? IntKind.i64 x) fun n =>
            bif n == (0 : Int) then
              O
                K33n2m1
                [AV.t (T.lst 1 ev0 v0), AV.t (T.int IntKind.i64 v1), AV.own (Id.c 0),
                  AV.t (T.lst 1 ev11 v11), AV.t (T.int IntKind.i64 v12),
                  AV.t (T.int IntKind.i64 (IntKind.i64.wrap (v13 + (1 : Int))))]
                [Blk.sl false 2 ec0 c0]
            else
              gdK none
                (O (Key.call 46)
                  [AV.t (T.lst 1 ev0 v0), AV.t (T.int IntKind.i64 v1), AV.t (T.int IntKind.i64 v13),
                    AV.t (T.lst 2 ec0 c0)]
                  [])
                fun l =>
                gdK none l.head? fun x =>
                  gdK none (T.int? IntKind.i64 x) fun n_1 =>
                    gdK none l.tail.head? fun x =>
                      gdK none x.bool? fun b =>
                        bif !b then
                          O
                            K33n2m1
                            [AV.t (T.lst 1 ev0 v0), AV.t (T.int IntKind.i64 v1), AV.own (Id.c 0),
                              AV.t (T.lst 1 ev11 v11), AV.t (T.int IntKind.i64 v12),
                              AV.t (T.int IntKind.i64 (IntKind.i64.wrap (v13 + (1 : Int))))]
                            [Blk.sl false 2 ec0 c0]
                        else
                          bif decide (n > (0 : Int)) then
                            gdK none (if (0 : Int) ≤ v13 ∧ v13 < (↑c0.length : Int) then some () else none) fun x =>
                              gdK none c0[v13.toNat]? fun l =>
                                gdK none (List.drop 1 l).head? fun x =>
                                  gdK none (T.int? IntKind.i64 x) fun n_2 =>
                                    gdK none
                                      (O (Key.call 47) [AV.t (T.int IntKind.i64 n_1), AV.t (T.int IntKind.i64 n)]
                                        [])
                                      fun l =>
                                      gdK none l.head? fun x =>
                                        gdK none (T.int? IntKind.i64 x) fun n =>
                                          gdK none (if (0 : Int) ≤ v13 ∧ v13 < (↑c0.length : Int) then some () else none)
                                            fun x =>
                                            gdK none
                                              (storeIn v13.toNat 1
                                                [T.int IntKind.i64 (mm false n_2 (mm true n (-999999 : Int)))] c0)
                                              fun l =>
                                              gdK none
                                                (if (0 : Int) ≤ v13 ∧ v13 < (↑l.length : Int) then some () else none)
                                                fun x =>
                                                gdK none l[v13.toNat]? fun l_1 =>
                                                  gdK none l_1.head? fun x =>
                                                    gdK none (T.int? IntKind.i64 x) fun n =>
                                                      gdK none
                                                        (if (0 : Int) ≤ v13 ∧ v13 < (↑l.length : Int) then some ()
                                                        else none)
                                                        fun x =>
                                                        gdK none l[v13.toNat]? fun l_2 =>
                                                          gdK none (List.drop 1 l_2).head? fun x =>
                                                            gdK none (T.int? IntKind.i64 x) fun n_3 =>
                                                              bif decide (n > n_3) then
                                                                some [T.bool false, T.lst 2 ec0 l]
                                                              else
                                                                O
                                                                  K33n2m1
                                                                  [AV.t (T.lst 1 ev0 v0),
                                                                    AV.t (T.int IntKind.i64 v1), AV.own (Id.c 0),
                                                                    AV.t (T.lst 1 ev11 v11),
                                                                    AV.t (T.int IntKind.i64 v12),
                                                                    AV.t
                                                                      (T.int IntKind.i64
                                                                        (IntKind.i64.wrap (v13 + (1 : Int))))]
                                                                  [Blk.sl false 2 ec0 l]
                          else
                            gdK none (if (0 : Int) ≤ v13 ∧ v13 < (↑c0.length : Int) then some () else none) fun x =>
                              gdK none c0[v13.toNat]? fun l =>
                                gdK none l.head? fun x =>
                                  gdK none (T.int? IntKind.i64 x) fun n_2 =>
                                    gdK none
                                      (O (Key.call 47)
                                        [AV.t (T.int IntKind.i64 n_1),
                                          AV.t (T.int IntKind.i64 (IntKind.i64.wrap ((0 : Int) - n)))]
                                        [])
                                      fun l =>
                                      gdK none l.head? fun x =>
                                        gdK none (T.int? IntKind.i64 x) fun n =>
                                          gdK none (if (0 : Int) ≤ v13 ∧ v13 < (↑c0.length : Int) then some () else none)
                                            fun x =>
                                            gdK none
                                              (storeIn v13.toNat 0
                                                [T.int IntKind.i64
                                                    (mm true n_2
                                                      (mm false (IntKind.i64.wrap ((0 : Int) - n)) (999999 : Int)))]
                                                c0)
                                              fun l =>
                                              gdK none
                                                (if (0 : Int) ≤ v13 ∧ v13 < (↑l.length : Int) then some () else none)
                                                fun x =>
                                                gdK none l[v13.toNat]? fun l_1 =>
                                                  gdK none l_1.head? fun x =>
                                                    gdK none (T.int? IntKind.i64 x) fun n =>
                                                      gdK none
                                                        (if (0 : Int) ≤ v13 ∧ v13 < (↑l.length : Int) then some ()
                                                        else none)
                                                        fun x =>
                                                        gdK none l[v13.toNat]? fun l_2 =>
                                                          gdK none (List.drop 1 l_2).head? fun x =>
                                                            gdK none (T.int? IntKind.i64 x) fun n_3 =>
                                                              bif decide (n > n_3) then
                                                                some [T.bool false, T.lst 2 ec0 l]
                                                              else
                                                                O
                                                                  K33n2m1
                                                                  [AV.t (T.lst 1 ev0 v0),
                                                                    AV.t (T.int IntKind.i64 v1), AV.own (Id.c 0),
                                                                    AV.t (T.lst 1 ev11 v11),
                                                                    AV.t (T.int IntKind.i64 v12),
                                                                    AV.t
                                                                      (T.int IntKind.i64
                                                                        (IntKind.i64.wrap (v13 + (1 : Int))))]
                                                                  [Blk.sl false 2 ec0 l]
  else some [T.bool true, T.lst 2 ec0 c0]) := by kernel_rfl
theorem e46 (O : Orc) (ea0 : Bool) (a0 : List (List T)) (a1 : Int) (a2 : Int) (ea3 : Bool) (a3 : List (List T)) : stepO PROG ann O (Key.call 46) [(AV.t (T.lst 1 ea0 a0)), (AV.t (T.int IntKind.i64 a1)), (AV.t (T.int IntKind.i64 a2)), (AV.t (T.lst 2 ea3 a3))] [] =
  (O
    K46n2
    [AV.t (T.int IntKind.i64 a1), AV.t (T.int IntKind.i64 a2), AV.t (T.lst 2 ea3 a3),
      AV.t (T.lst 1 ea0 a0), AV.t (T.int IntKind.i64 (↑a0.length : Int)), AV.t (T.int IntKind.i64 (0 : Int))]
    []) := by kernel_rfl
theorem e47 (O : Orc) (a0 : Int) (a1 : Int) : stepO PROG ann O (Key.call 47) [(AV.t (T.int IntKind.i64 a0)), (AV.t (T.int IntKind.i64 a1))] [] =
  (gdK none (if a1 = (0 : Int) then none else some ()) fun x =>
    gdK none (if a1 = (0 : Int) then none else some ()) fun x =>
      bif bif !a0.tmod a1 == (0 : Int) then !decide (a0 < (0 : Int)) == decide (a1 < (0 : Int)) else false then
        some [T.int IntKind.i64 (IntKind.i64.wrap (IntKind.i64.wrap (a0.tdiv a1) - (1 : Int)))]
      else some [T.int IntKind.i64 (IntKind.i64.wrap (a0.tdiv a1))]) := by kernel_rfl
theorem e46n2 (O : Orc) (v1 : Int) (v2 : Int) (ev3 : Bool) (v3 : List (List T)) (ev14 : Bool) (v14 : List (List T)) (v15 : Int) (v16 : Int) : stepO PROG ann O K46n2 [(AV.t (T.int IntKind.i64 v1)), (AV.t (T.int IntKind.i64 v2)), (AV.t (T.lst 2 ev3 v3)), (AV.t (T.lst 1 ev14 v14)), (AV.t (T.int IntKind.i64 v15)), (AV.t (T.int IntKind.i64 v16))] [] =
  (bif decide (v16 < v15) then
    gdK none (if (0 : Int) ≤ v16 ∧ v16 < (↑v14.length : Int) then some () else none) fun x =>
      gdK none v14[v16.toNat]? fun l =>
        gdK none l.head? fun x =>
          gdK none (T.int? IntKind.i64 x) fun n =>
            bif bif n == (0 : Int) then true else v16 == v2 then
              O
                K46n2
                [AV.t (T.int IntKind.i64 v1), AV.t (T.int IntKind.i64 v2), AV.t (T.lst 2 ev3 v3),
                  AV.t (T.lst 1 ev14 v14), AV.t (T.int IntKind.i64 v15),
                  AV.t (T.int IntKind.i64 (IntKind.i64.wrap (v16 + (1 : Int))))]
                []
            else
              gdK none (if (0 : Int) ≤ v16 ∧ v16 < (↑v3.length : Int) then some () else none) fun x =>
                gdK none v3[v16.toNat]? fun l =>
                  gdK none l.head? fun x =>
                    gdK none l.tail.head? fun x_1 =>
                      gdK none (T.int? IntKind.i64 x) fun n_1 =>
                        gdK none (T.int? IntKind.i64 x_1) fun n_2 =>
                          gdK none
                            (O (Key.call 64)
                              [AV.t (T.int IntKind.i64 n),
                                AV.agg [AV.t (T.int IntKind.i64 n_1), AV.t (T.int IntKind.i64 n_2)]]
                              [])
                            fun l =>
                            gdK none l.head? fun x =>
                              gdK none (T.int? IntKind.i64 x) fun n =>
                                gdK none l.tail.head? fun x =>
                                  gdK none x.bool? fun b =>
                                    bif !b then some [T.int IntKind.i64 (0 : Int), T.bool false]
                                    else
                                      O
                                        K46n2
                                        [AV.t (T.int IntKind.i64 (IntKind.i64.wrap (v1 - n))),
                                          AV.t (T.int IntKind.i64 v2), AV.t (T.lst 2 ev3 v3),
                                          AV.t (T.lst 1 ev14 v14), AV.t (T.int IntKind.i64 v15),
                                          AV.t (T.int IntKind.i64 (IntKind.i64.wrap (v16 + (1 : Int))))]
                                        []
  else some [T.int IntKind.i64 v1, T.bool true]) := by kernel_rfl
theorem e64 (O : Orc) (a0 : Int) (a1_0 : Int) (a1_1 : Int) : stepO PROG ann O (Key.call 64) [(AV.t (T.int IntKind.i64 a0)), (AV.agg [(AV.t (T.int IntKind.i64 a1_0)), (AV.t (T.int IntKind.i64 a1_1))])] [] =
  (bif decide (a0 > (0 : Int)) then
    some [T.int IntKind.i64 (IntKind.i64.wrap (a0 * a1_0)), T.bool (decide (a1_0 > (-1000000 : Int)))]
  else some [T.int IntKind.i64 (IntKind.i64.wrap (a0 * a1_1)), T.bool (decide (a1_1 < (1000000 : Int)))]) := by kernel_rfl
theorem e6 (O : Orc) (eq : Bool) (q : List (List T)) (er : Bool) (r : List (List T)) (es : Bool) (s : List (List T)) (eo : Bool) (of : List (List T)) (kd tv : Int) : stepO PROG ann O (Key.call 6) [AV.t (T.lst 3 eq q), AV.t (T.lst 2 er r), AV.t (T.lst 2 es s), AV.agg [AV.t (T.lst 1 eo of), AV.t (T.int .i64 kd), AV.t (T.int .i64 tv)]] [] =
  (gdK none (O (Key.call 9) [] []) fun l =>
    gdK none l.head? fun x =>
      gdK none x.bool? fun b =>
        bif !b then some [T.bool false]
        else
          bif !(↑r.length : Int) == (↑s.length : Int) then some [T.bool true]
          else
            O
              K6n7
              [AV.t (T.lst 3 eq q), AV.t (T.lst 2 er r), AV.t (T.lst 2 es s),
                AV.ref (Id.c 0) 0, AV.t (T.int IntKind.i64 (0 : Int))]
              [Blk.box [AV.t (T.lst 1 eo of), AV.t (T.int IntKind.i64 kd), AV.t (T.int IntKind.i64 tv)]]) := by kernel_rfl
theorem e6n7 (O : Orc) (ev0 : Bool) (v0 : List (List T)) (ev1 : Bool) (v1 : List (List T)) (ev2 : Bool) (v2 : List (List T)) (v10 : Int) (ec0_0 : Bool) (c0_0 : List (List T)) (c0_1 : Int) (c0_2 : Int) : stepO PROG ann O K6n7 [(AV.t (T.lst 3 ev0 v0)), (AV.t (T.lst 2 ev1 v1)), (AV.t (T.lst 2 ev2 v2)), (AV.ref (Id.c 0) 0), (AV.t (T.int IntKind.i64 v10))] [(Blk.box [(AV.t (T.lst 1 ec0_0 c0_0)), (AV.t (T.int IntKind.i64 c0_1)), (AV.t (T.int IntKind.i64 c0_2))])] =
  (bif decide (v10 < (↑v1.length : Int)) then
    gdK none (if (0 : Int) ≤ v10 ∧ v10 < (↑v2.length : Int) then some () else none) fun x =>
      gdK none v2[v10.toNat]? fun l =>
        gdK none l.head? fun x =>
          gdK none (T.int? IntKind.i64 x) fun n =>
            gdK none (if (0 : Int) ≤ v10 ∧ v10 < (↑v1.length : Int) then some () else none) fun x =>
              gdK none v1[v10.toNat]? fun l =>
                gdK none l.head? fun x =>
                  gdK none (T.int? IntKind.i64 x) fun n_1 =>
                    gdK (some !decide (n < n_1)) (if (0 : Int) ≤ v10 ∧ v10 < (↑v2.length : Int) then some () else none)
                      fun x =>
                      gdK (some !decide (n < n_1)) v2[v10.toNat]? fun l =>
                        gdK (some !decide (n < n_1)) (List.drop 1 l).head? fun x =>
                          gdK (some !decide (n < n_1)) (T.int? IntKind.i64 x) fun n_2 =>
                            gdK (some !decide (n < n_1))
                              (if (0 : Int) ≤ v10 ∧ v10 < (↑v1.length : Int) then some () else none) fun x =>
                              gdK (some !decide (n < n_1)) v1[v10.toNat]? fun l =>
                                gdK (some !decide (n < n_1)) (List.drop 1 l).head? fun x =>
                                  gdK (some !decide (n < n_1)) (T.int? IntKind.i64 x) fun n_3 =>
                                    bif bif decide (n < n_1) then true else decide (n_2 > n_3) then some [T.bool true]
                                    else
                                      O
                                        K6n7
                                        [AV.t (T.lst 3 ev0 v0), AV.t (T.lst 2 ev1 v1),
                                          AV.t (T.lst 2 ev2 v2), AV.ref (Id.c 0) 0,
                                          AV.t (T.int IntKind.i64 (IntKind.i64.wrap (v10 + (1 : Int))))]
                                        [Blk.box
                                            [AV.t (T.lst 1 ec0_0 c0_0), AV.t (T.int IntKind.i64 c0_1),
                                              AV.t (T.int IntKind.i64 c0_2)]]
  else
    gdK none (O (Key.call 7) [AV.t (T.lst 3 ev0 v0), AV.t (T.lst 2 ev1 v1)] []) fun l =>
      gdK none l.head? fun x =>
        gdK none (T.lst? 2 x) fun p =>
          gdK none l.tail.head? fun x =>
            gdK none x.bool? fun b =>
              gdK none l.tail.tail.head? fun x =>
                gdK none (T.int? IntKind.i64 x) fun n =>
                  gdK none l.tail.tail.tail.head? fun x =>
                    gdK none (T.int? IntKind.i64 x) fun n_1 =>
                      gdK none (O (Key.call 7) [AV.t (T.lst 3 ev0 v0), AV.t (T.lst 2 ev2 v2)] [])
                        fun l =>
                        gdK none l.head? fun x =>
                          gdK none (T.lst? 2 x) fun p_1 =>
                            gdK none l.tail.head? fun x =>
                              gdK none x.bool? fun b_1 =>
                                gdK none l.tail.tail.head? fun x =>
                                  gdK none (T.int? IntKind.i64 x) fun n_2 =>
                                    gdK none l.tail.tail.tail.head? fun x =>
                                      gdK none (T.int? IntKind.i64 x) fun n_3 =>
                                        gdK none (small 40 v0.length) fun x =>
                                          gdK none
                                            (small 40
                                              (v0.length +
                                                [[T.lst 1 ec0_0 c0_0, T.int IntKind.i64 c0_1,
                                                      T.int IntKind.i64 c0_2]].length))
                                            fun x =>
                                            gdK none
                                              (O (Key.call 7)
                                                [AV.t
                                                    (T.lst 3 (v0.isEmpty && false)
                                                      (v0 ++
                                                        [[T.lst 1 ec0_0 c0_0, T.int IntKind.i64 c0_1,
                                                            T.int IntKind.i64 c0_2]])),
                                                  AV.t (T.lst 2 ev1 v1)]
                                                [])
                                              fun l =>
                                              gdK none l.head? fun x =>
                                                gdK none (T.lst? 2 x) fun p_2 =>
                                                  gdK none l.tail.head? fun x =>
                                                    gdK none x.bool? fun b_2 =>
                                                      gdK none l.tail.tail.head? fun x =>
                                                        gdK none (T.int? IntKind.i64 x) fun n_4 =>
                                                          gdK none l.tail.tail.tail.head? fun x =>
                                                            gdK none (T.int? IntKind.i64 x) fun n_5 =>
                                                              bif
                                                                  bif !n == (0 : Int) then true
                                                                  else !n_2 == (0 : Int) then
                                                                some
                                                                  [T.bool
                                                                      (bif !n == (0 : Int) then true
                                                                      else
                                                                        bif !n_2 == (0 : Int) then
                                                                          (↑p_1.snd.length : Int) == (0 : Int)
                                                                        else false)]
                                                              else
                                                                gdK none
                                                                  (O (Key.call 19)
                                                                    [AV.t (T.lst 2 p_1.fst p_1.snd),
                                                                      AV.t (T.bool b_1),
                                                                      AV.t (T.lst 2 p.fst p.snd), AV.t (T.bool b)]
                                                                    [])
                                                                  fun l =>
                                                                  gdK none l.head? fun x =>
                                                                    gdK none x.bool? fun b_3 =>
                                                                      gdK none
                                                                        (askO
                                                                          (some
                                                                            (bif b_3 then !!n_4 == (0 : Int) else false))
                                                                          (O (Key.call 19)
                                                                            [AV.t (T.lst 2 p_2.fst p_2.snd),
                                                                              AV.t (T.bool b_2),
                                                                              AV.t (T.lst 2 p.fst p.snd),
                                                                              AV.t (T.bool b)]
                                                                            []))
                                                                        fun l =>
                                                                        gdK
                                                                          (some
                                                                            (bif b_3 then !!n_4 == (0 : Int) else false))
                                                                          l.head? fun x =>
                                                                          gdK
                                                                            (some
                                                                              (bif b_3 then !!n_4 == (0 : Int)
                                                                              else false))
                                                                            x.bool? fun b =>
                                                                            some
                                                                              [T.bool
                                                                                  (bif b_3 then
                                                                                    bif !n_4 == (0 : Int) then true else b
                                                                                  else false)]) := by kernel_rfl
theorem e19 (O : Orc) (ea0 : Bool) (a0 : List (List T)) (a1 : Bool) (ea2 : Bool) (a2 : List (List T)) (a3 : Bool) : stepO PROG ann O (Key.call 19) [(AV.t (T.lst 2 ea0 a0)), (AV.t (T.bool a1)), (AV.t (T.lst 2 ea2 a2)), (AV.t (T.bool a3))] [] =
  (bif !a1 then some [T.bool true]
  else
    bif bif !a3 then true else !(↑a0.length : Int) == (↑a2.length : Int) then some [T.bool false]
    else
      O
        K19n6
        [AV.t (T.lst 2 ea0 a0), AV.t (T.lst 2 ea2 a2), AV.t (T.int IntKind.i64 (0 : Int))] []) := by kernel_rfl
theorem e19n6 (O : Orc) (ev0 : Bool) (v0 : List (List T)) (ev2 : Bool) (v2 : List (List T)) (v9 : Int) : stepO PROG ann O K19n6 [(AV.t (T.lst 2 ev0 v0)), (AV.t (T.lst 2 ev2 v2)), (AV.t (T.int IntKind.i64 v9))] [] =
  (bif decide (v9 < (↑v0.length : Int)) then
    gdK none (if (0 : Int) ≤ v9 ∧ v9 < (↑v0.length : Int) then some () else none) fun x =>
      gdK none v0[v9.toNat]? fun l =>
        gdK none l.head? fun x =>
          gdK none (T.int? IntKind.i64 x) fun n =>
            gdK none (if (0 : Int) ≤ v9 ∧ v9 < (↑v2.length : Int) then some () else none) fun x =>
              gdK none v2[v9.toNat]? fun l =>
                gdK none l.head? fun x =>
                  gdK none (T.int? IntKind.i64 x) fun n_1 =>
                    gdK (some !decide (n < n_1)) (if (0 : Int) ≤ v9 ∧ v9 < (↑v0.length : Int) then some () else none)
                      fun x =>
                      gdK (some !decide (n < n_1)) v0[v9.toNat]? fun l =>
                        gdK (some !decide (n < n_1)) (List.drop 1 l).head? fun x =>
                          gdK (some !decide (n < n_1)) (T.int? IntKind.i64 x) fun n_2 =>
                            gdK (some !decide (n < n_1))
                              (if (0 : Int) ≤ v9 ∧ v9 < (↑v2.length : Int) then some () else none) fun x =>
                              gdK (some !decide (n < n_1)) v2[v9.toNat]? fun l =>
                                gdK (some !decide (n < n_1)) (List.drop 1 l).head? fun x =>
                                  gdK (some !decide (n < n_1)) (T.int? IntKind.i64 x) fun n_3 =>
                                    bif bif decide (n < n_1) then true else decide (n_2 > n_3) then some [T.bool false]
                                    else
                                      O
                                        K19n6
                                        [AV.t (T.lst 2 ev0 v0), AV.t (T.lst 2 ev2 v2),
                                          AV.t (T.int IntKind.i64 (IntKind.i64.wrap (v9 + (1 : Int))))]
                                        []
  else some [T.bool true]) := by kernel_rfl
theorem e3 (O : Orc) (eq : Bool) (q : List (List T)) (er : Bool) (r : List (List T)) : stepO PROG ann O (Key.call 3) [AV.t (T.lst 3 eq q), AV.t (T.lst 2 er r)] [] =
  (gdK none (O (Key.call 7) [AV.t (T.lst 3 eq q), AV.t (T.lst 2 er r)] []) fun l =>
    gdK none l.head? fun x =>
      gdK none (T.lst? 2 x) fun p =>
        gdK none l.tail.head? fun x =>
          gdK none x.bool? fun b =>
            gdK none l.tail.tail.head? fun x =>
              gdK none (T.int? IntKind.i64 x) fun n =>
                gdK none l.tail.tail.tail.head? fun x =>
                  gdK none (T.int? IntKind.i64 x) fun n_1 =>
                    gdK none (O (Key.call 8) [AV.t (T.lst 3 eq q), AV.t (T.lst 2 er r)] [])
                      fun l =>
                      gdK none l.head? fun x =>
                        gdK none (T.lst? 2 x) fun p_1 =>
                          gdK none l.tail.head? fun x =>
                            gdK none x.bool? fun b_1 =>
                              gdK none l.tail.tail.head? fun x =>
                                gdK none (T.int? IntKind.i64 x) fun n_2 =>
                                  gdK none l.tail.tail.tail.head? fun x =>
                                    gdK none (T.int? IntKind.i64 x) fun n_3 =>
                                      gdK none (O (Key.call 9) [] []) fun l =>
                                        gdK none l.head? fun x =>
                                          gdK none x.bool? fun b_2 =>
                                            gdK none
                                              (askO (some !!b_2)
                                                (O (Key.call 10) [AV.t (T.lst 2 er r)] []))
                                              fun l =>
                                              gdK (some !!b_2) l.head? fun x =>
                                                gdK (some !!b_2) (T.int? IntKind.i64 x) fun n_4 =>
                                                  gdK (some !!b_2) l.tail.head? fun x =>
                                                    gdK (some !!b_2) (T.int? IntKind.i64 x) fun n_5 =>
                                                      gdK none
                                                        (askO (some !!b_2)
                                                          (O (Key.call 11) [AV.t (T.lst 2 er r)] []))
                                                        fun l =>
                                                        gdK (some !!b_2) l.head? fun x =>
                                                          gdK (some !!b_2) (T.int? IntKind.i64 x) fun n_6 =>
                                                            gdK (some !!b_2) l.tail.head? fun x =>
                                                              gdK (some !!b_2) (T.int? IntKind.i64 x) fun n_7 =>
                                                                bif
                                                                    bif !b_2 then true
                                                                    else !(n_4 == n_6 && (n_5 == n_7 && true)) then
                                                                  some [T.bool false]
                                                                else
                                                                  gdK none
                                                                    (O (Key.call 12)
                                                                      [AV.t (T.lst 3 eq q),
                                                                        AV.t (T.lst 2 er r)]
                                                                      [])
                                                                    fun l =>
                                                                    gdK none l.head? fun x =>
                                                                      gdK none (T.int? IntKind.i64 x) fun n_8 =>
                                                                        gdK none l.tail.head? fun x =>
                                                                          gdK none (T.int? IntKind.i64 x) fun n_9 =>
                                                                            bif !n_8 == (0 : Int) then
                                                                              some
                                                                                [T.bool
                                                                                    (bif
                                                                                        bif
                                                                                            bif
                                                                                                bif
                                                                                                    n == n_8 &&
                                                                                                      (n_1 == n_9 &&
                                                                                                        true) then
                                                                                                  n_2 == n_8 &&
                                                                                                    (n_3 == n_9 && true)
                                                                                                else false then
                                                                                              !b
                                                                                            else false then
                                                                                          !b_1
                                                                                        else false then
                                                                                      IntKind.i64.wrap
                                                                                          ((↑p.snd.length : Int) +
                                                                                            (↑p_1.snd.length : Int)) ==
                                                                                        (0 : Int)
                                                                                    else false)]
                                                                            else
                                                                              gdK none
                                                                                (O (Key.call 13)
                                                                                  [AV.t (T.lst 3 eq q),
                                                                                    AV.t (T.lst 2 er r)]
                                                                                  [])
                                                                                fun l =>
                                                                                gdK none l.head? fun x =>
                                                                                  gdK none (T.lst? 2 x) fun p_2 =>
                                                                                    gdK none l.tail.head? fun x =>
                                                                                      gdK none x.bool? fun b_3 =>
                                                                                        gdK none
                                                                                          (O (Key.call 14)
                                                                                            [AV.t (T.lst 3 eq q),
                                                                                              AV.t (T.lst 2 er r)]
                                                                                            [])
                                                                                          fun l =>
                                                                                          gdK none l.head? fun x =>
                                                                                            gdK none (T.lst? 2 x)
                                                                                              fun p_3 =>
                                                                                              gdK none l.tail.head?
                                                                                                fun x =>
                                                                                                gdK none x.bool?
                                                                                                  fun b_4 =>
                                                                                                  gdK none
                                                                                                    (askO
                                                                                                      (some
                                                                                                        (bif
                                                                                                            bif
                                                                                                                bif
                                                                                                                    n ==
                                                                                                                      (0 :
                                                                                                                        Int) then
                                                                                                                  n_2 ==
                                                                                                                    (0 :
                                                                                                                      Int)
                                                                                                                else
                                                                                                                  false then
                                                                                                              b == b_3
                                                                                                            else
                                                                                                              false then
                                                                                                          b_1 == b_4
                                                                                                        else false))
                                                                                                      (O
                                                                                                        (Key.call
                                                                                                          15)
                                                                                                        [AV.t
                                                                                                            (T.lst
                                                                                                              2
                                                                                                              p.fst
                                                                                                              p.snd),
                                                                                                          AV.t
                                                                                                            (T.lst
                                                                                                              2
                                                                                                              p_2.fst
                                                                                                              p_2.snd)]
                                                                                                        []))
                                                                                                    fun l =>
                                                                                                    gdK
                                                                                                      (some
                                                                                                        (bif
                                                                                                            bif
                                                                                                                bif
                                                                                                                    n ==
                                                                                                                      (0 :
                                                                                                                        Int) then
                                                                                                                  n_2 ==
                                                                                                                    (0 :
                                                                                                                      Int)
                                                                                                                else
                                                                                                                  false then
                                                                                                              b == b_3
                                                                                                            else
                                                                                                              false then
                                                                                                          b_1 == b_4
                                                                                                        else false))
                                                                                                      l.head? fun x =>
                                                                                                      gdK
                                                                                                        (some
                                                                                                          (bif
                                                                                                              bif
                                                                                                                  bif
                                                                                                                      n ==
                                                                                                                        (0 :
                                                                                                                          Int) then
                                                                                                                    n_2 ==
                                                                                                                      (0 :
                                                                                                                        Int)
                                                                                                                  else
                                                                                                                    false then
                                                                                                                b == b_3
                                                                                                              else
                                                                                                                false then
                                                                                                            b_1 == b_4
                                                                                                          else false))
                                                                                                        x.bool? fun b_5 =>
                                                                                                        gdK none
                                                                                                          (askO
                                                                                                            (some
                                                                                                              (bif
                                                                                                                  bif
                                                                                                                      bif
                                                                                                                          bif
                                                                                                                              n ==
                                                                                                                                (0 :
                                                                                                                                  Int) then
                                                                                                                            n_2 ==
                                                                                                                              (0 :
                                                                                                                                Int)
                                                                                                                          else
                                                                                                                            false then
                                                                                                                        b ==
                                                                                                                          b_3
                                                                                                                      else
                                                                                                                        false then
                                                                                                                    b_1 ==
                                                                                                                      b_4
                                                                                                                  else
                                                                                                                    false then
                                                                                                                b_5
                                                                                                              else false))
                                                                                                            (O
                                                                                                              (Key.call
                                                                                                                (15 :
                                                                                                                  Nat))
                                                                                                              [AV.t
                                                                                                                  (T.lst
                                                                                                                    (2 :
                                                                                                                      Nat)
                                                                                                                    p_1.fst
                                                                                                                    p_1.snd),
                                                                                                                AV.t
                                                                                                                  (T.lst
                                                                                                                    (2 :
                                                                                                                      Nat)
                                                                                                                    p_3.fst
                                                                                                                    p_3.snd)]
                                                                                                              []))
                                                                                                          fun l =>
                                                                                                          gdK
                                                                                                            (some
                                                                                                              (bif
                                                                                                                  bif
                                                                                                                      bif
                                                                                                                          bif
                                                                                                                              n ==
                                                                                                                                (0 :
                                                                                                                                  Int) then
                                                                                                                            n_2 ==
                                                                                                                              (0 :
                                                                                                                                Int)
                                                                                                                          else
                                                                                                                            false then
                                                                                                                        b ==
                                                                                                                          b_3
                                                                                                                      else
                                                                                                                        false then
                                                                                                                    b_1 ==
                                                                                                                      b_4
                                                                                                                  else
                                                                                                                    false then
                                                                                                                b_5
                                                                                                              else false))
                                                                                                            l.head?
                                                                                                            fun x =>
                                                                                                            gdK
                                                                                                              (some
                                                                                                                (bif
                                                                                                                    bif
                                                                                                                        bif
                                                                                                                            bif
                                                                                                                                n ==
                                                                                                                                  (0 :
                                                                                                                                    Int) then
                                                                                                                              n_2 ==
                                                                                                                                (0 :
                                                                                                                                  Int)
                                                                                                                            else
                                                                                                                              false then
                                                                                                                          b ==
                                                                                                                            b_3
                                                                                                                        else
                                                                                                                          false then
                                                                                                                      b_1 ==
                                                                                                                        b_4
                                                                                                                    else
                                                                                                                      false then
                                                                                                                  b_5
                                                                                                                else
                                                                                                                  false))
                                                                                                              x.bool?
                                                                                                              fun b_6 =>
                                                                                                              some
                                                                                                                [T.bool
                                                                                                                    (bif
                                                                                                                        bif
                                                                                                                            bif
                                                                                                                                bif
                                                                                                                                    bif
                                                                                                                                        n ==
                                                                                                                                          (0 :
                                                                                                                                            Int) then
                                                                                                                                      n_2 ==
                                                                                                                                        (0 :
                                                                                                                                          Int)
                                                                                                                                    else
                                                                                                                                      false then
                                                                                                                                  b ==
                                                                                                                                    b_3
                                                                                                                                else
                                                                                                                                  false then
                                                                                                                              b_1 ==
                                                                                                                                b_4
                                                                                                                            else
                                                                                                                              false then
                                                                                                                          b_5
                                                                                                                        else
                                                                                                                          false then
                                                                                                                      b_6
                                                                                                                    else
                                                                                                                      false)]) := by kernel_rfl
theorem e11 (O : Orc) (ea0 : Bool) (a0 : List (List T)) : stepO PROG ann O (Key.call 11) [(AV.t (T.lst 2 ea0 a0))] [] =
  (bif decide ((↑a0.length : Int) > (12 : Int)) then
    gdK none (O (Key.call 24) [AV.t (T.int IntKind.i64 (2 : Int)), AV.t (T.int IntKind.i64 (0 : Int))] [])
      fun l =>
      gdK none l.head? fun x =>
        gdK none (T.int? IntKind.i64 x) fun n =>
          gdK none l.tail.head? fun x =>
            gdK none (T.int? IntKind.i64 x) fun n_1 => some [T.int IntKind.i64 n, T.int IntKind.i64 n_1]
  else
    O
      K11n4
      [AV.t (T.lst 2 ea0 a0), AV.ref (Id.c 0) 0, AV.t (T.int IntKind.i64 (0 : Int))]
      [Blk.box [AV.t (T.int IntKind.i64 (0 : Int)), AV.t (T.int IntKind.i64 (0 : Int))]]) := by kernel_rfl
theorem e12 (O : Orc) (ea0 : Bool) (a0 : List (List T)) (ea1 : Bool) (a1 : List (List T)) : stepO PROG ann O (Key.call 12) [(AV.t (T.lst 3 ea0 a0)), (AV.t (T.lst 2 ea1 a1))] [] =
  (gdK none (O (Key.call 11) [AV.t (T.lst 2 ea1 a1)] []) fun l =>
    gdK none l.head? fun x =>
      gdK none (T.int? IntKind.i64 x) fun n =>
        gdK none l.tail.head? fun x =>
          gdK none (T.int? IntKind.i64 x) fun n_1 =>
            bif n == (0 : Int) then
              gdK none
                (O (Key.call 26) [AV.t (T.lst 3 ea0 a0), AV.t (T.int IntKind.i64 (↑a1.length : Int))] [])
                fun l =>
                gdK none l.head? fun x =>
                  gdK none (T.int? IntKind.i64 x) fun n =>
                    gdK none l.tail.head? fun x =>
                      gdK none (T.int? IntKind.i64 x) fun n_2 => some [T.int IntKind.i64 n, T.int IntKind.i64 n_2]
            else some [T.int IntKind.i64 n, T.int IntKind.i64 n_1]) := by kernel_rfl
theorem e13 (O : Orc) (ea0 : Bool) (a0 : List (List T)) (ea1 : Bool) (a1 : List (List T)) : stepO PROG ann O (Key.call 13) [(AV.t (T.lst 3 ea0 a0)), (AV.t (T.lst 2 ea1 a1))] [] =
  (gdK none (small 16 a1.length) fun x =>
    O
      K13n3
      [AV.t (T.lst 3 ea0 a0), AV.own (Id.c 0), AV.t (T.int IntKind.i64 (0 : Int))]
      [Blk.sl false 2 a1.isEmpty a1]) := by kernel_rfl
theorem e14 (O : Orc) (ea0 : Bool) (a0 : List (List T)) (ea1 : Bool) (a1 : List (List T)) : stepO PROG ann O (Key.call 14) [(AV.t (T.lst 3 ea0 a0)), (AV.t (T.lst 2 ea1 a1))] [] =
  (O
    K14n3
    [AV.t (T.lst 3 ea0 a0), AV.t (T.lst 2 ea1 a1), AV.t (T.int IntKind.i64 (0 : Int))] []) := by kernel_rfl
theorem e24 (O : Orc) (a0 : Int) (a1 : Int) : stepO PROG ann O (Key.call 24) [(AV.t (T.int IntKind.i64 a0)), (AV.t (T.int IntKind.i64 a1))] [] =
  (some [T.int IntKind.i64 a0, T.int IntKind.i64 a1]) := by kernel_rfl
theorem e11n4 (O : Orc) (ev0 : Bool) (v0 : List (List T)) (v3 : Int) (c0_0 : Int) (c0_1 : Int) : stepO PROG ann O K11n4 [(AV.t (T.lst 2 ev0 v0)), (AV.ref (Id.c 0) 0), (AV.t (T.int IntKind.i64 v3))] [(Blk.box [(AV.t (T.int IntKind.i64 c0_0)), (AV.t (T.int IntKind.i64 c0_1))])] =
  (bif decide (v3 < (↑v0.length : Int)) then
    gdK none (if (0 : Int) ≤ v3 ∧ v3 < (↑v0.length : Int) then some () else none) fun x =>
      gdK none v0[v3.toNat]? fun l =>
        gdK none l.head? fun x =>
          gdK none (T.int? IntKind.i64 x) fun n =>
            gdK none (O (Key.call 25) [AV.t (T.int IntKind.i64 n)] []) fun l =>
              gdK none l.head? fun x =>
                gdK none x.bool? fun b =>
                  gdK (some !!b) (if (0 : Int) ≤ v3 ∧ v3 < (↑v0.length : Int) then some () else none) fun x =>
                    gdK (some !!b) v0[v3.toNat]? fun l =>
                      gdK (some !!b) (List.drop 1 l).head? fun x =>
                        gdK (some !!b) (T.int? IntKind.i64 x) fun n =>
                          gdK none (askO (some !!b) (O (Key.call 25) [AV.t (T.int IntKind.i64 n)] [])) fun l =>
                            gdK (some !!b) l.head? fun x =>
                              gdK (some !!b) x.bool? fun b_1 =>
                                bif bif !b then true else !b_1 then
                                  gdK none
                                    (O (Key.call 24)
                                      [AV.t (T.int IntKind.i64 (3 : Int)), AV.t (T.int IntKind.i64 v3)] [])
                                    fun l =>
                                    gdK none l.head? fun x =>
                                      gdK none (T.int? IntKind.i64 x) fun n =>
                                        gdK none l.tail.head? fun x =>
                                          gdK none (T.int? IntKind.i64 x) fun n_1 =>
                                            some [T.int IntKind.i64 n, T.int IntKind.i64 n_1]
                                else
                                  gdK none (if (0 : Int) ≤ v3 ∧ v3 < (↑v0.length : Int) then some () else none) fun x =>
                                    gdK none v0[v3.toNat]? fun l =>
                                      gdK none l.head? fun x =>
                                        gdK none (T.int? IntKind.i64 x) fun n =>
                                          gdK none (if (0 : Int) ≤ v3 ∧ v3 < (↑v0.length : Int) then some () else none)
                                            fun x =>
                                            gdK none v0[v3.toNat]? fun l =>
                                              gdK none (List.drop 1 l).head? fun x =>
                                                gdK none (T.int? IntKind.i64 x) fun n_1 =>
                                                  bif decide (n > n_1) then
                                                    gdK none
                                                      (O (Key.call 24)
                                                        [AV.t (T.int IntKind.i64 (5 : Int)), AV.t (T.int IntKind.i64 v3)]
                                                        [])
                                                      fun l =>
                                                      gdK none l.head? fun x =>
                                                        gdK none (T.int? IntKind.i64 x) fun n =>
                                                          gdK none l.tail.head? fun x =>
                                                            gdK none (T.int? IntKind.i64 x) fun n_2 =>
                                                              some [T.int IntKind.i64 n, T.int IntKind.i64 n_2]
                                                  else
                                                    O
                                                      K11n4
                                                      [AV.t (T.lst 2 ev0 v0), AV.ref (Id.c 0) 0,
                                                        AV.t (T.int IntKind.i64 (IntKind.i64.wrap (v3 + (1 : Int))))]
                                                      [Blk.box
                                                          [AV.t (T.int IntKind.i64 c0_0), AV.t (T.int IntKind.i64 c0_1)]]
  else some [T.int IntKind.i64 (0 : Int), T.int IntKind.i64 (0 : Int)]) := by kernel_rfl
theorem e26 (O : Orc) (ea0 : Bool) (a0 : List (List T)) (a1 : Int) : stepO PROG ann O (Key.call 26) [(AV.t (T.lst 3 ea0 a0)), (AV.t (T.int IntKind.i64 a1))] [] =
  (bif bif decide (a1 < (0 : Int)) then true else decide (a1 > (12 : Int)) then
    gdK none (O (Key.call 24) [AV.t (T.int IntKind.i64 (3 : Int)), AV.t (T.int IntKind.i64 (-1 : Int))] [])
      fun l =>
      gdK none l.head? fun x =>
        gdK none (T.int? IntKind.i64 x) fun n =>
          gdK none l.tail.head? fun x =>
            gdK none (T.int? IntKind.i64 x) fun n_1 => some [T.int IntKind.i64 n, T.int IntKind.i64 n_1]
  else
    bif decide ((↑a0.length : Int) > (40 : Int)) then
      gdK none (O (Key.call 24) [AV.t (T.int IntKind.i64 (2 : Int)), AV.t (T.int IntKind.i64 (0 : Int))] [])
        fun l =>
        gdK none l.head? fun x =>
          gdK none (T.int? IntKind.i64 x) fun n =>
            gdK none l.tail.head? fun x =>
              gdK none (T.int? IntKind.i64 x) fun n_1 => some [T.int IntKind.i64 n, T.int IntKind.i64 n_1]
    else
      O
        K26n6
        [AV.t (T.lst 3 ea0 a0), AV.t (T.int IntKind.i64 a1), AV.ref (Id.c 0) 0,
          AV.t (T.int IntKind.i64 (0 : Int))]
        [Blk.box [AV.t (T.int IntKind.i64 (0 : Int)), AV.t (T.int IntKind.i64 (0 : Int))]]) := by kernel_rfl
theorem e13n3 (O : Orc) (ev0 : Bool) (v0 : List (List T)) (v7 : Int) (ec0 : Bool) (c0 : List (List T)) : stepO PROG ann O K13n3 [(AV.t (T.lst 3 ev0 v0)), (AV.own (Id.c 0)), (AV.t (T.int IntKind.i64 v7))] [(Blk.sl false 2 ec0 c0)] =
  (bif decide (v7 < (↑v0.length : Int)) then
    gdK none (if (0 : Int) ≤ v7 ∧ v7 < (↑v0.length : Int) then some () else none) fun x =>
      gdK none v0[v7.toNat]? fun l =>
        gdK none l.head? fun x =>
          gdK none l.tail.head? fun x_1 =>
            gdK none l.tail.tail.head? fun x_2 =>
              gdK none (T.lst? 1 x) fun p =>
                gdK none (T.int? IntKind.i64 x_1) fun n =>
                  gdK none (T.int? IntKind.i64 x_2) fun n_1 =>
                    bif n == (2 : Int) then
                      O
                        K13n11
                        [AV.t (T.lst 3 ev0 v0), AV.own (Id.c 0), AV.t (T.int IntKind.i64 v7),
                          AV.ref (Id.c 1) 0,
                          AV.t (T.int IntKind.i64 (IntKind.i64.wrap (n_1 - (1 : Int)))), AV.t (T.bool true),
                          AV.t (T.int IntKind.i64 (0 : Int))]
                        [Blk.sl false 2 ec0 c0,
                          Blk.box
                            [AV.t (T.lst 1 p.fst p.snd), AV.t (T.int IntKind.i64 n),
                              AV.t (T.int IntKind.i64 n_1)]]
                    else
                      O
                        K13n11
                        [AV.t (T.lst 3 ev0 v0), AV.own (Id.c 0), AV.t (T.int IntKind.i64 v7),
                          AV.ref (Id.c 1) 0, AV.t (T.int IntKind.i64 n_1), AV.t (T.bool true),
                          AV.t (T.int IntKind.i64 (0 : Int))]
                        [Blk.sl false 2 ec0 c0,
                          Blk.box
                            [AV.t (T.lst 1 p.fst p.snd), AV.t (T.int IntKind.i64 n),
                              AV.t (T.int IntKind.i64 n_1)]]
  else some [T.lst 2 ec0 c0, T.bool true]) := by kernel_rfl
theorem e14n3 (O : Orc) (ev0 : Bool) (v0 : List (List T)) (ev6 : Bool) (v6 : List (List T)) (v7 : Int) : stepO PROG ann O K14n3 [(AV.t (T.lst 3 ev0 v0)), (AV.t (T.lst 2 ev6 v6)), (AV.t (T.int IntKind.i64 v7))] [] =
  (bif decide (v7 < (200 : Int)) then
    gdK none (O (Key.call 13) [AV.t (T.lst 3 ev0 v0), AV.t (T.lst 2 ev6 v6)] []) fun l =>
      gdK none l.head? fun x =>
        gdK none (T.lst? 2 x) fun p =>
          gdK none l.tail.head? fun x =>
            gdK none x.bool? fun b =>
              bif !b then some [T.emp true, T.bool false]
              else
                gdK none (O (Key.call 15) [AV.t (T.lst 2 p.fst p.snd), AV.t (T.lst 2 ev6 v6)] [])
                  fun l =>
                  gdK none l.head? fun x =>
                    gdK none x.bool? fun b =>
                      bif b then some [T.lst 2 p.fst p.snd, T.bool true]
                      else
                        O
                          K14n3
                          [AV.t (T.lst 3 ev0 v0), AV.t (T.lst 2 p.fst p.snd),
                            AV.t (T.int IntKind.i64 (IntKind.i64.wrap (v7 + (1 : Int))))]
                          []
  else some [T.lst 2 ev6 v6, T.bool true]) := by kernel_rfl
theorem e25 (O : Orc) (a0 : Int) : stepO PROG ann O (Key.call 25) [(AV.t (T.int IntKind.i64 a0))] [] =
  (some [T.bool (bif decide (a0 ≤ (1000000 : Int)) then decide (a0 ≥ (-1000000 : Int)) else false)]) := by kernel_rfl
theorem e26n6 (O : Orc) (ev0 : Bool) (v0 : List (List T)) (v1 : Int) (v5 : Int) (c0_0 : Int) (c0_1 : Int) : stepO PROG ann O K26n6 [(AV.t (T.lst 3 ev0 v0)), (AV.t (T.int IntKind.i64 v1)), (AV.ref (Id.c 0) 0), (AV.t (T.int IntKind.i64 v5))] [(Blk.box [(AV.t (T.int IntKind.i64 c0_0)), (AV.t (T.int IntKind.i64 c0_1))])] =
  (bif decide (v5 < (↑v0.length : Int)) then
    gdK none (if (0 : Int) ≤ v5 ∧ v5 < (↑v0.length : Int) then some () else none) fun x =>
      gdK none v0[v5.toNat]? fun l =>
        gdK none l.head? fun x =>
          gdK none l.tail.head? fun x_1 =>
            gdK none l.tail.tail.head? fun x_2 =>
              gdK none (T.lst? 1 x) fun p =>
                gdK none (T.int? IntKind.i64 x_1) fun n =>
                  gdK none (T.int? IntKind.i64 x_2) fun n_1 =>
                    gdK none
                      (O (Key.call 34)
                        [AV.agg
                            [AV.t (T.lst 1 p.fst p.snd), AV.t (T.int IntKind.i64 n),
                              AV.t (T.int IntKind.i64 n_1)],
                          AV.t (T.int IntKind.i64 v1)]
                        [])
                      fun l =>
                      gdK none l.head? fun x =>
                        gdK none (T.int? IntKind.i64 x) fun n =>
                          gdK none l.tail.head? fun x =>
                            gdK none (T.int? IntKind.i64 x) fun n_2 =>
                              bif !n == (0 : Int) then
                                gdK none
                                  (O (Key.call 24) [AV.t (T.int IntKind.i64 n), AV.t (T.int IntKind.i64 v5)] [])
                                  fun l =>
                                  gdK none l.head? fun x =>
                                    gdK none (T.int? IntKind.i64 x) fun n =>
                                      gdK none l.tail.head? fun x =>
                                        gdK none (T.int? IntKind.i64 x) fun n_3 =>
                                          some [T.int IntKind.i64 n, T.int IntKind.i64 n_3]
                              else
                                O
                                  K26n6
                                  [AV.t (T.lst 3 ev0 v0), AV.t (T.int IntKind.i64 v1),
                                    AV.ref (Id.c 0) 0,
                                    AV.t (T.int IntKind.i64 (IntKind.i64.wrap (v5 + (1 : Int))))]
                                  [Blk.box [AV.t (T.int IntKind.i64 c0_0), AV.t (T.int IntKind.i64 c0_1)]]
  else some [T.int IntKind.i64 (0 : Int), T.int IntKind.i64 (0 : Int)]) := by kernel_rfl
theorem e13n11 (O : Orc) (ev0 : Bool) (v0 : List (List T)) (v7 : Int) (v9 : Int) (v10 : Bool) (v11 : Int) (ec0 : Bool) (c0 : List (List T)) (ec1_0 : Bool) (c1_0 : List (List T)) (c1_1 : Int) (c1_2 : Int) : stepO PROG ann O K13n11 [(AV.t (T.lst 3 ev0 v0)), (AV.own (Id.c 0)), (AV.t (T.int IntKind.i64 v7)), (AV.ref (Id.c 1) 0), (AV.t (T.int IntKind.i64 v9)), (AV.t (T.bool v10)), (AV.t (T.int IntKind.i64 v11))] [(Blk.sl false 2 ec0 c0), (Blk.box [(AV.t (T.lst 1 ec1_0 c1_0)), (AV.t (T.int IntKind.i64 c1_1)), (AV.t (T.int IntKind.i64 c1_2))])] =
  (bif decide (v11 < (↑c1_0.length : Int)) then
    gdK (some v10) (if (0 : Int) ≤ v11 ∧ v11 < (↑c1_0.length : Int) then some () else none) fun x =>
      gdK (some v10) c1_0[v11.toNat]? fun l =>
        gdK (some v10) l.head? fun x =>
          gdK (some v10) (T.int? IntKind.i64 x) fun n =>
            O
              K13n11
              [AV.t (T.lst 3 ev0 v0), AV.own (Id.c 0), AV.t (T.int IntKind.i64 v7),
                AV.ref (Id.c 1) 0, AV.t (T.int IntKind.i64 v9),
                AV.t (T.bool (bif v10 then n == (0 : Int) else false)),
                AV.t (T.int IntKind.i64 (IntKind.i64.wrap (v11 + (1 : Int))))]
              [Blk.sl false 2 ec0 c0,
                Blk.box [AV.t (T.lst 1 ec1_0 c1_0), AV.t (T.int IntKind.i64 c1_1), AV.t (T.int IntKind.i64 c1_2)]]
  else
    bif
        bif v10 then
          bif decide (v9 < (0 : Int)) then true else bif decide (v9 > (0 : Int)) then c1_1 == (3 : Int) else false
        else false then
      some [T.emp true, T.bool false]
    else
      gdK none
        (O (Key.call 27)
          [AV.agg [AV.t (T.lst 1 ec1_0 c1_0), AV.t (T.int IntKind.i64 c1_1), AV.t (T.int IntKind.i64 c1_2)],
            AV.t (T.int IntKind.i64 (1 : Int)), AV.t (T.int IntKind.i64 v9), AV.own (Id.c 0)]
          [Blk.sl false 2 ec0 c0])
        fun l =>
        gdK none l.head? fun x =>
          gdK none x.bool? fun b =>
            gdK none ((List.drop 1 l).head?.bind fun z => T.lst? 2 z) fun p =>
              bif bif !!b then c1_1 == (3 : Int) else false then
                gdK none
                  (O (Key.call 27)
                    [AV.agg
                        [AV.t (T.lst 1 ec1_0 c1_0), AV.t (T.int IntKind.i64 c1_1), AV.t (T.int IntKind.i64 c1_2)],
                      AV.t (T.int IntKind.i64 (-1 : Int)), AV.t (T.int IntKind.i64 (IntKind.i64.wrap ((0 : Int) - v9))),
                      AV.own (Id.c 0)]
                    [Blk.sl false 2 p.fst p.snd])
                  fun l =>
                  gdK none l.head? fun x =>
                    gdK none x.bool? fun b_1 =>
                      gdK none ((List.drop 1 l).head?.bind fun z => T.lst? 2 z) fun p =>
                        bif bif !b then true else bif c1_1 == (3 : Int) then !b_1 else false then
                          some [T.emp true, T.bool false]
                        else
                          O
                            K13n3
                            [AV.t (T.lst 3 ev0 v0), AV.own (Id.c 0),
                              AV.t (T.int IntKind.i64 (IntKind.i64.wrap (v7 + (1 : Int))))]
                            [Blk.sl false 2 p.fst p.snd]
              else
                bif bif !b then true else bif c1_1 == (3 : Int) then true else false then some [T.emp true, T.bool false]
                else
                  O
                    K13n3
                    [AV.t (T.lst 3 ev0 v0), AV.own (Id.c 0),
                      AV.t (T.int IntKind.i64 (IntKind.i64.wrap (v7 + (1 : Int))))]
                    [Blk.sl false 2 p.fst p.snd]) := by kernel_rfl
theorem e34 (O : Orc) (ea0_0 : Bool) (a0_0 : List (List T)) (a0_1 : Int) (a0_2 : Int) (a1 : Int) : stepO PROG ann O (Key.call 34) [(AV.agg [(AV.t (T.lst 1 ea0_0 a0_0)), (AV.t (T.int IntKind.i64 a0_1)), (AV.t (T.int IntKind.i64 a0_2))]), (AV.t (T.int IntKind.i64 a1))] [] =
  (bif bif decide (a1 < (0 : Int)) then true else decide (a1 > (12 : Int)) then
    gdK none (O (Key.call 24) [AV.t (T.int IntKind.i64 (3 : Int)), AV.t (T.int IntKind.i64 (-1 : Int))] [])
      fun l =>
      gdK none l.head? fun x =>
        gdK none (T.int? IntKind.i64 x) fun n =>
          gdK none l.tail.head? fun x =>
            gdK none (T.int? IntKind.i64 x) fun n_1 => some [T.int IntKind.i64 n, T.int IntKind.i64 n_1]
  else
    bif bif bif !a0_1 == (1 : Int) then !a0_1 == (2 : Int) else false then !a0_1 == (3 : Int) else false then
      gdK none (O (Key.call 24) [AV.t (T.int IntKind.i64 (4 : Int)), AV.t (T.int IntKind.i64 (0 : Int))] [])
        fun l =>
        gdK none l.head? fun x =>
          gdK none (T.int? IntKind.i64 x) fun n =>
            gdK none l.tail.head? fun x =>
              gdK none (T.int? IntKind.i64 x) fun n_1 => some [T.int IntKind.i64 n, T.int IntKind.i64 n_1]
    else
      bif decide ((↑a0_0.length : Int) > a1) then
        gdK none (O (Key.call 24) [AV.t (T.int IntKind.i64 (9 : Int)), AV.t (T.int IntKind.i64 (0 : Int))] [])
          fun l =>
          gdK none l.head? fun x =>
            gdK none (T.int? IntKind.i64 x) fun n =>
              gdK none l.tail.head? fun x =>
                gdK none (T.int? IntKind.i64 x) fun n_1 => some [T.int IntKind.i64 n, T.int IntKind.i64 n_1]
      else
        O
          K34n8
          [AV.ref (Id.c 0) 0, AV.ref (Id.c 1) 0, AV.t (T.int IntKind.i64 (0 : Int))]
          [Blk.box [AV.t (T.lst 1 ea0_0 a0_0), AV.t (T.int IntKind.i64 a0_1), AV.t (T.int IntKind.i64 a0_2)],
            Blk.box [AV.t (T.int IntKind.i64 (0 : Int)), AV.t (T.int IntKind.i64 (0 : Int))]]) := by kernel_rfl
theorem e34n8 (O : Orc) (v5 : Int) (ec0_0 : Bool) (c0_0 : List (List T)) (c0_1 : Int) (c0_2 : Int) (c1_0 : Int) (c1_1 : Int) : stepO PROG ann O K34n8 [(AV.ref (Id.c 0) 0), (AV.ref (Id.c 1) 0), (AV.t (T.int IntKind.i64 v5))] [(Blk.box [(AV.t (T.lst 1 ec0_0 c0_0)), (AV.t (T.int IntKind.i64 c0_1)), (AV.t (T.int IntKind.i64 c0_2))]), (Blk.box [(AV.t (T.int IntKind.i64 c1_0)), (AV.t (T.int IntKind.i64 c1_1))])] =
  (bif decide (v5 < (↑c0_0.length : Int)) then
    gdK none (if (0 : Int) ≤ v5 ∧ v5 < (↑c0_0.length : Int) then some () else none) fun x =>
      gdK none c0_0[v5.toNat]? fun l =>
        gdK none l.head? fun x =>
          gdK none (T.int? IntKind.i64 x) fun n =>
            gdK none (O (Key.call 25) [AV.t (T.int IntKind.i64 n)] []) fun l =>
              gdK none l.head? fun x =>
                gdK none x.bool? fun b =>
                  bif !b then
                    gdK none
                      (O (Key.call 24) [AV.t (T.int IntKind.i64 (3 : Int)), AV.t (T.int IntKind.i64 v5)] [])
                      fun l =>
                      gdK none l.head? fun x =>
                        gdK none (T.int? IntKind.i64 x) fun n =>
                          gdK none l.tail.head? fun x =>
                            gdK none (T.int? IntKind.i64 x) fun n_1 => some [T.int IntKind.i64 n, T.int IntKind.i64 n_1]
                  else
                    O
                      K34n8
                      [AV.ref (Id.c 0) 0, AV.ref (Id.c 1) 0,
                        AV.t (T.int IntKind.i64 (IntKind.i64.wrap (v5 + (1 : Int))))]
                      [Blk.box
                          [AV.t (T.lst 1 ec0_0 c0_0), AV.t (T.int IntKind.i64 c0_1),
                            AV.t (T.int IntKind.i64 c0_2)],
                        Blk.box [AV.t (T.int IntKind.i64 c1_0), AV.t (T.int IntKind.i64 c1_1)]]
  else
    gdK none (O (Key.call 25) [AV.t (T.int IntKind.i64 c0_2)] []) fun l =>
      gdK none l.head? fun x =>
        gdK none x.bool? fun b =>
          bif !b then
            gdK none
              (O (Key.call 24) [AV.t (T.int IntKind.i64 (3 : Int)), AV.t (T.int IntKind.i64 (↑c0_0.length : Int))]
                [])
              fun l =>
              gdK none l.head? fun x =>
                gdK none (T.int? IntKind.i64 x) fun n =>
                  gdK none l.tail.head? fun x =>
                    gdK none (T.int? IntKind.i64 x) fun n_1 => some [T.int IntKind.i64 n, T.int IntKind.i64 n_1]
          else some [T.int IntKind.i64 (0 : Int), T.int IntKind.i64 (0 : Int)]) := by kernel_rfl
theorem e27 (O : Orc) (eo : Bool) (of : List (List T)) (kd tv sg to : Int) (ec : Bool) (c : List (List T)) : stepO PROG ann O (Key.call 27) [AV.agg [AV.t (T.lst 1 eo of), AV.t (T.int .i64 kd), AV.t (T.int .i64 tv)], AV.t (T.int .i64 sg), AV.t (T.int .i64 to), AV.own (Id.c 0)] [Blk.sl false 2 ec c] =
  (O
    K27n2m1
    [AV.t (T.int IntKind.i64 sg), AV.t (T.int IntKind.i64 to), AV.own (Id.c 0), AV.ref (Id.c 1) 0,
      AV.t (T.int IntKind.i64 (0 : Int))]
    [Blk.sl false 2 ec c,
      Blk.box [AV.t (T.lst 1 eo of), AV.t (T.int IntKind.i64 kd), AV.t (T.int IntKind.i64 tv)]]) := by kernel_rfl
theorem e27n2 (O : Orc) (v1 : Int) (v2 : Int) (v9 : Int) (ec0 : Bool) (c0 : List (List T)) (ec1_0 : Bool) (c1_0 : List (List T)) (c1_1 : Int) (c1_2 : Int) : stepO PROG ann O K27n2m1 [(AV.t (T.int IntKind.i64 v1)), (AV.t (T.int IntKind.i64 v2)), (AV.own (Id.c 0)), (AV.ref (Id.c 1) 0), (AV.t (T.int IntKind.i64 v9))] [(Blk.sl false 2 ec0 c0), (Blk.box [(AV.t (T.lst 1 ec1_0 c1_0)), (AV.t (T.int IntKind.i64 c1_1)), (AV.t (T.int IntKind.i64 c1_2))])] =
  (bif decide (v9 < (↑c1_0.length : Int)) then
    gdK none (if (0 : Int) ≤ v9 ∧ v9 < (↑c1_0.length : Int) then some () else none) fun x =>
      gdK none c1_0[v9.toNat]? fun l =>
        gdK none l.head? fun x =>
          gdK none (T.int? IntKind.i64 x) fun n =>
            bif IntKind.i64.wrap (v1 * n) == (0 : Int) then
              O
                K27n2m1
                [AV.t (T.int IntKind.i64 v1), AV.t (T.int IntKind.i64 v2), AV.own (Id.c 0),
                  AV.ref (Id.c 1) 0, AV.t (T.int IntKind.i64 (IntKind.i64.wrap (v9 + (1 : Int))))]
                [Blk.sl false 2 ec0 c0,
                  Blk.box
                    [AV.t (T.lst 1 ec1_0 c1_0), AV.t (T.int IntKind.i64 c1_1), AV.t (T.int IntKind.i64 c1_2)]]
            else
              gdK none (O (Key.call 35) [AV.t (T.int IntKind.i64 v2)] []) fun l =>
                gdK none l.head? fun x =>
                  O
                    K27n9m1
                    [AV.t (T.int IntKind.i64 v1), AV.t (T.int IntKind.i64 v2), AV.own (Id.c 0),
                      AV.ref (Id.c 1) 0, AV.t (T.int IntKind.i64 v9),
                      AV.t (T.int IntKind.i64 (IntKind.i64.wrap (v1 * n))), AV.t (T.bool true), AV.t x,
                      AV.t (T.int IntKind.i64 (0 : Int))]
                    [Blk.sl false 2 ec0 c0,
                      Blk.box
                        [AV.t (T.lst 1 ec1_0 c1_0), AV.t (T.int IntKind.i64 c1_1), AV.t (T.int IntKind.i64 c1_2)]]
  else some [T.bool true, T.lst 2 ec0 c0]) := by kernel_rfl
theorem e27n9 (O : Orc) (v1 : Int) (v2 : Int) (v9 : Int) (v10 : Int) (v11 : Bool) (v12 : T) (v13 : Int) (ec0 : Bool) (c0 : List (List T)) (ec1_0 : Bool) (c1_0 : List (List T)) (c1_1 : Int) (c1_2 : Int) : stepO PROG ann O K27n9m1 [(AV.t (T.int IntKind.i64 v1)), (AV.t (T.int IntKind.i64 v2)), (AV.own (Id.c 0)), (AV.ref (Id.c 1) 0), (AV.t (T.int IntKind.i64 v9)), (AV.t (T.int IntKind.i64 v10)), (AV.t (T.bool v11)), (AV.t v12), (AV.t (T.int IntKind.i64 v13))] [(Blk.sl false 2 ec0 c0), (Blk.box [(AV.t (T.lst 1 ec1_0 c1_0)), (AV.t (T.int IntKind.i64 c1_1)), (AV.t (T.int IntKind.i64 c1_2))])] =
  (bif decide (v13 < (↑c1_0.length : Int)) then
    gdK none (if (0 : Int) ≤ v13 ∧ v13 < (↑c1_0.length : Int) then some () else none) fun x =>
      gdK none c1_0[v13.toNat]? fun l =>
        gdK none l.head? fun x =>
          gdK none (T.int? IntKind.i64 x) fun n =>
            bif bif v13 == v9 then true else IntKind.i64.wrap (v1 * n) == (0 : Int) then
              O
                K27n9m1
                [AV.t (T.int IntKind.i64 v1), AV.t (T.int IntKind.i64 v2), AV.own (Id.c 0),
                  AV.ref (Id.c 1) 0, AV.t (T.int IntKind.i64 v9), AV.t (T.int IntKind.i64 v10),
                  AV.t (T.bool v11), AV.t v12, AV.t (T.int IntKind.i64 (IntKind.i64.wrap (v13 + (1 : Int))))]
                [Blk.sl false 2 ec0 c0,
                  Blk.box
                    [AV.t (T.lst 1 ec1_0 c1_0), AV.t (T.int IntKind.i64 c1_1), AV.t (T.int IntKind.i64 c1_2)]]
            else
              gdK none (if (0 : Int) ≤ v13 ∧ v13 < (↑c0.length : Int) then some () else none) fun x =>
                gdK none c0[v13.toNat]? fun l =>
                  gdK none l.head? fun x =>
                    gdK none (T.int? IntKind.i64 x) fun n_1 =>
                      bif decide (IntKind.i64.wrap (v1 * n) < (0 : Int)) then
                        gdK none (if (0 : Int) ≤ v13 ∧ v13 < (↑c0.length : Int) then some () else none) fun x =>
                          gdK none c0[v13.toNat]? fun l =>
                            gdK none (List.drop 1 l).head? fun x =>
                              gdK none (T.int? IntKind.i64 x) fun n_2 =>
                                bif
                                    bif
                                        bif decide (IntKind.i64.wrap (v1 * n) > (0 : Int)) then n_2 == (-1000000 : Int)
                                        else false then
                                      true
                                    else
                                      bif decide (IntKind.i64.wrap (v1 * n) < (0 : Int)) then n_2 == (1000000 : Int)
                                      else false then
                                  gdK none
                                    (O (Key.call 35) [AV.t (T.int IntKind.i64 (IntKind.i64.wrap (v1 * n)))] [])
                                    fun l =>
                                    gdK none l.head? fun x =>
                                      gdK none (O (Key.call 35) [AV.t (T.int IntKind.i64 n_2)] []) fun l =>
                                        gdK none l.head? fun x_1 =>
                                          gdK none
                                            (O (Key.call 37) [AV.ref (Id.c 0) 0, AV.t x, AV.t x_1]
                                              [Blk.box [AV.t (T.bool false), AV.t (T.emp true)]])
                                            fun l =>
                                            gdK none l.head? fun x =>
                                              gdK none (List.drop 1 l).head? fun x =>
                                                gdK none x.bool? fun b =>
                                                  gdK none (List.drop 1 l).tail.head? fun x =>
                                                    gdK none (T.lst? 1 x) fun p =>
                                                      gdK none
                                                        (O (Key.call 36)
                                                          [AV.ref (Id.c 0) 0, AV.t v12,
                                                            AV.t (T.ptr [T.bool b, T.lst 1 p.fst p.snd])]
                                                          [Blk.box [AV.t (T.bool false), AV.t (T.emp true)]])
                                                        fun l =>
                                                        gdK none l.head? fun x =>
                                                          gdK none (List.drop 1 l).head? fun x =>
                                                            gdK none x.bool? fun b =>
                                                              gdK none (List.drop 1 l).tail.head? fun x =>
                                                                gdK none (T.lst? 1 x) fun p =>
                                                                  O
                                                                    K27n9m1
                                                                    [AV.t (T.int IntKind.i64 v1),
                                                                      AV.t (T.int IntKind.i64 v2),
                                                                      AV.own (Id.c 0),
                                                                      AV.ref (Id.c 1) 0,
                                                                      AV.t (T.int IntKind.i64 v9),
                                                                      AV.t (T.int IntKind.i64 v10), AV.t (T.bool false),
                                                                      AV.t
                                                                        (T.ptr [T.bool b, T.lst 1 p.fst p.snd]),
                                                                      AV.t
                                                                        (T.int IntKind.i64
                                                                          (IntKind.i64.wrap (v13 + (1 : Int))))]
                                                                    [Blk.sl false 2 ec0 c0,
                                                                      Blk.box
                                                                        [AV.t (T.lst 1 ec1_0 c1_0),
                                                                          AV.t (T.int IntKind.i64 c1_1),
                                                                          AV.t (T.int IntKind.i64 c1_2)]]
                                else
                                  gdK none
                                    (O (Key.call 35) [AV.t (T.int IntKind.i64 (IntKind.i64.wrap (v1 * n)))] [])
                                    fun l =>
                                    gdK none l.head? fun x =>
                                      gdK none (O (Key.call 35) [AV.t (T.int IntKind.i64 n_2)] []) fun l =>
                                        gdK none l.head? fun x_1 =>
                                          gdK none
                                            (O (Key.call 37) [AV.ref (Id.c 0) 0, AV.t x, AV.t x_1]
                                              [Blk.box [AV.t (T.bool false), AV.t (T.emp true)]])
                                            fun l =>
                                            gdK none l.head? fun x =>
                                              gdK none (List.drop 1 l).head? fun x =>
                                                gdK none x.bool? fun b =>
                                                  gdK none (List.drop 1 l).tail.head? fun x =>
                                                    gdK none (T.lst? 1 x) fun p =>
                                                      gdK none
                                                        (O (Key.call 36)
                                                          [AV.ref (Id.c 0) 0, AV.t v12,
                                                            AV.t (T.ptr [T.bool b, T.lst 1 p.fst p.snd])]
                                                          [Blk.box [AV.t (T.bool false), AV.t (T.emp true)]])
                                                        fun l =>
                                                        gdK none l.head? fun x =>
                                                          gdK none (List.drop 1 l).head? fun x =>
                                                            gdK none x.bool? fun b =>
                                                              gdK none (List.drop 1 l).tail.head? fun x =>
                                                                gdK none (T.lst? 1 x) fun p =>
                                                                  O
                                                                    K27n9m1
                                                                    [AV.t (T.int IntKind.i64 v1),
                                                                      AV.t (T.int IntKind.i64 v2),
                                                                      AV.own (Id.c 0),
                                                                      AV.ref (Id.c 1) 0,
                                                                      AV.t (T.int IntKind.i64 v9),
                                                                      AV.t (T.int IntKind.i64 v10), AV.t (T.bool v11),
                                                                      AV.t
                                                                        (T.ptr [T.bool b, T.lst 1 p.fst p.snd]),
                                                                      AV.t
                                                                        (T.int IntKind.i64
                                                                          (IntKind.i64.wrap (v13 + (1 : Int))))]
                                                                    [Blk.sl false 2 ec0 c0,
                                                                      Blk.box
                                                                        [AV.t (T.lst 1 ec1_0 c1_0),
                                                                          AV.t (T.int IntKind.i64 c1_1),
                                                                          AV.t (T.int IntKind.i64 c1_2)]]
                      else
                        bif
                            bif
                                bif decide (IntKind.i64.wrap (v1 * n) > (0 : Int)) then n_1 == (-1000000 : Int)
                                else false then
                              true
                            else
                              bif decide (IntKind.i64.wrap (v1 * n) < (0 : Int)) then n_1 == (1000000 : Int)
                              else false then
                          gdK none (O (Key.call 35) [AV.t (T.int IntKind.i64 (IntKind.i64.wrap (v1 * n)))] [])
                            fun l =>
                            gdK none l.head? fun x =>
                              gdK none (O (Key.call 35) [AV.t (T.int IntKind.i64 n_1)] []) fun l =>
                                gdK none l.head? fun x_1 =>
                                  gdK none
                                    (O (Key.call 37) [AV.ref (Id.c 0) 0, AV.t x, AV.t x_1]
                                      [Blk.box [AV.t (T.bool false), AV.t (T.emp true)]])
                                    fun l =>
                                    gdK none l.head? fun x =>
                                      gdK none (List.drop 1 l).head? fun x =>
                                        gdK none x.bool? fun b =>
                                          gdK none (List.drop 1 l).tail.head? fun x =>
                                            gdK none (T.lst? 1 x) fun p =>
                                              gdK none
                                                (O (Key.call 36)
                                                  [AV.ref (Id.c 0) 0, AV.t v12,
                                                    AV.t (T.ptr [T.bool b, T.lst 1 p.fst p.snd])]
                                                  [Blk.box [AV.t (T.bool false), AV.t (T.emp true)]])
                                                fun l =>
                                                gdK none l.head? fun x =>
                                                  gdK none (List.drop 1 l).head? fun x =>
                                                    gdK none x.bool? fun b =>
                                                      gdK none (List.drop 1 l).tail.head? fun x =>
                                                        gdK none (T.lst? 1 x) fun p =>
                                                          O
                                                            K27n9m1
                                                            [AV.t (T.int IntKind.i64 v1), AV.t (T.int IntKind.i64 v2),
                                                              AV.own (Id.c 0), AV.ref (Id.c 1) 0,
                                                              AV.t (T.int IntKind.i64 v9), AV.t (T.int IntKind.i64 v10),
                                                              AV.t (T.bool false),
                                                              AV.t (T.ptr [T.bool b, T.lst 1 p.fst p.snd]),
                                                              AV.t
                                                                (T.int IntKind.i64 (IntKind.i64.wrap (v13 + (1 : Int))))]
                                                            [Blk.sl false 2 ec0 c0,
                                                              Blk.box
                                                                [AV.t (T.lst 1 ec1_0 c1_0),
                                                                  AV.t (T.int IntKind.i64 c1_1),
                                                                  AV.t (T.int IntKind.i64 c1_2)]]
                        else
                          gdK none (O (Key.call 35) [AV.t (T.int IntKind.i64 (IntKind.i64.wrap (v1 * n)))] [])
                            fun l =>
                            gdK none l.head? fun x =>
                              gdK none (O (Key.call 35) [AV.t (T.int IntKind.i64 n_1)] []) fun l =>
                                gdK none l.head? fun x_1 =>
                                  gdK none
                                    (O (Key.call 37) [AV.ref (Id.c 0) 0, AV.t x, AV.t x_1]
                                      [Blk.box [AV.t (T.bool false), AV.t (T.emp true)]])
                                    fun l =>
                                    gdK none l.head? fun x =>
                                      gdK none (List.drop 1 l).head? fun x =>
                                        gdK none x.bool? fun b =>
                                          gdK none (List.drop 1 l).tail.head? fun x =>
                                            gdK none (T.lst? 1 x) fun p =>
                                              gdK none
                                                (O (Key.call 36)
                                                  [AV.ref (Id.c 0) 0, AV.t v12,
                                                    AV.t (T.ptr [T.bool b, T.lst 1 p.fst p.snd])]
                                                  [Blk.box [AV.t (T.bool false), AV.t (T.emp true)]])
                                                fun l =>
                                                gdK none l.head? fun x =>
                                                  gdK none (List.drop 1 l).head? fun x =>
                                                    gdK none x.bool? fun b =>
                                                      gdK none (List.drop 1 l).tail.head? fun x =>
                                                        gdK none (T.lst? 1 x) fun p =>
                                                          O
                                                            K27n9m1
                                                            [AV.t (T.int IntKind.i64 v1), AV.t (T.int IntKind.i64 v2),
                                                              AV.own (Id.c 0), AV.ref (Id.c 1) 0,
                                                              AV.t (T.int IntKind.i64 v9), AV.t (T.int IntKind.i64 v10),
                                                              AV.t (T.bool v11),
                                                              AV.t (T.ptr [T.bool b, T.lst 1 p.fst p.snd]),
                                                              AV.t
                                                                (T.int IntKind.i64 (IntKind.i64.wrap (v13 + (1 : Int))))]
                                                            [Blk.sl false 2 ec0 c0,
                                                              Blk.box
                                                                [AV.t (T.lst 1 ec1_0 c1_0),
                                                                  AV.t (T.int IntKind.i64 c1_1),
                                                                  AV.t (T.int IntKind.i64 c1_2)]]
  else
    bif !v11 then
      O
        K27n2m1
        [AV.t (T.int IntKind.i64 v1), AV.t (T.int IntKind.i64 v2), AV.own (Id.c 0),
          AV.ref (Id.c 1) 0, AV.t (T.int IntKind.i64 (IntKind.i64.wrap (v9 + (1 : Int))))]
        [Blk.sl false 2 ec0 c0,
          Blk.box [AV.t (T.lst 1 ec1_0 c1_0), AV.t (T.int IntKind.i64 c1_1), AV.t (T.int IntKind.i64 c1_2)]]
    else
      bif decide (v10 > (0 : Int)) then
        gdK none (O (Key.call 35) [AV.t (T.int IntKind.i64 v10)] []) fun l =>
          gdK none l.head? fun x =>
            gdK none
              (O (Key.call 38) [AV.ref (Id.c 0) 0, AV.t v12, AV.t x]
                [Blk.box [AV.t (T.bool false), AV.t (T.emp true)]])
              fun l =>
              gdK none l.head? fun x =>
                gdK none (List.drop 1 l).head? fun x =>
                  gdK none x.bool? fun b =>
                    gdK none (List.drop 1 l).tail.head? fun x =>
                      gdK none (T.lst? 1 x) fun p =>
                        gdK none (O (Key.call 39) [AV.t (T.ptr [T.bool b, T.lst 1 p.fst p.snd])] [])
                          fun l =>
                          gdK none l.head? fun x =>
                            gdK none (T.int? IntKind.i64 x) fun n =>
                              gdK none (if (0 : Int) ≤ v9 ∧ v9 < (↑c0.length : Int) then some () else none) fun x =>
                                gdK none c0[v9.toNat]? fun l =>
                                  gdK none (List.drop 1 l).head? fun x =>
                                    gdK none (T.int? IntKind.i64 x) fun n_1 =>
                                      gdK none (if (0 : Int) ≤ v9 ∧ v9 < (↑c0.length : Int) then some () else none)
                                        fun x =>
                                        gdK none
                                          (storeIn v9.toNat 1
                                            [T.int IntKind.i64 (mm false n_1 (mm true n (-999999 : Int)))] c0)
                                          fun l =>
                                          gdK none (if (0 : Int) ≤ v9 ∧ v9 < (↑l.length : Int) then some () else none)
                                            fun x =>
                                            gdK none l[v9.toNat]? fun l_1 =>
                                              gdK none l_1.head? fun x =>
                                                gdK none (T.int? IntKind.i64 x) fun n =>
                                                  gdK none
                                                    (if (0 : Int) ≤ v9 ∧ v9 < (↑l.length : Int) then some () else none)
                                                    fun x =>
                                                    gdK none l[v9.toNat]? fun l_2 =>
                                                      gdK none (List.drop 1 l_2).head? fun x =>
                                                        gdK none (T.int? IntKind.i64 x) fun n_2 =>
                                                          bif decide (n > n_2) then
                                                            some [T.bool false, T.lst 2 ec0 l]
                                                          else
                                                            O
                                                              K27n2m1
                                                              [AV.t (T.int IntKind.i64 v1), AV.t (T.int IntKind.i64 v2),
                                                                AV.own (Id.c 0),
                                                                AV.ref (Id.c 1) 0,
                                                                AV.t
                                                                  (T.int IntKind.i64 (IntKind.i64.wrap (v9 + (1 : Int))))]
                                                              [Blk.sl false 2 ec0 l,
                                                                Blk.box
                                                                  [AV.t (T.lst 1 ec1_0 c1_0),
                                                                    AV.t (T.int IntKind.i64 c1_1),
                                                                    AV.t (T.int IntKind.i64 c1_2)]]
      else
        gdK none (O (Key.call 35) [AV.t (T.int IntKind.i64 (IntKind.i64.wrap ((0 : Int) - v10)))] []) fun l =>
          gdK none l.head? fun x =>
            gdK none
              (O (Key.call 38) [AV.ref (Id.c 0) 0, AV.t v12, AV.t x]
                [Blk.box [AV.t (T.bool false), AV.t (T.emp true)]])
              fun l =>
              gdK none l.head? fun x =>
                gdK none (List.drop 1 l).head? fun x =>
                  gdK none x.bool? fun b =>
                    gdK none (List.drop 1 l).tail.head? fun x =>
                      gdK none (T.lst? 1 x) fun p =>
                        gdK none (O (Key.call 39) [AV.t (T.ptr [T.bool b, T.lst 1 p.fst p.snd])] [])
                          fun l =>
                          gdK none l.head? fun x =>
                            gdK none (T.int? IntKind.i64 x) fun n =>
                              gdK none (if (0 : Int) ≤ v9 ∧ v9 < (↑c0.length : Int) then some () else none) fun x =>
                                gdK none c0[v9.toNat]? fun l =>
                                  gdK none l.head? fun x =>
                                    gdK none (T.int? IntKind.i64 x) fun n_1 =>
                                      gdK none (if (0 : Int) ≤ v9 ∧ v9 < (↑c0.length : Int) then some () else none)
                                        fun x =>
                                        gdK none
                                          (storeIn v9.toNat 0
                                            [T.int IntKind.i64
                                                (mm true n_1
                                                  (mm false (IntKind.i64.wrap ((0 : Int) - n)) (999999 : Int)))]
                                            c0)
                                          fun l =>
                                          gdK none (if (0 : Int) ≤ v9 ∧ v9 < (↑l.length : Int) then some () else none)
                                            fun x =>
                                            gdK none l[v9.toNat]? fun l_1 =>
                                              gdK none l_1.head? fun x =>
                                                gdK none (T.int? IntKind.i64 x) fun n =>
                                                  gdK none
                                                    (if (0 : Int) ≤ v9 ∧ v9 < (↑l.length : Int) then some () else none)
                                                    fun x =>
                                                    gdK none l[v9.toNat]? fun l_2 =>
                                                      gdK none (List.drop 1 l_2).head? fun x =>
                                                        gdK none (T.int? IntKind.i64 x) fun n_2 =>
                                                          bif decide (n > n_2) then
                                                            some [T.bool false, T.lst 2 ec0 l]
                                                          else
                                                            O
                                                              K27n2m1
                                                              [AV.t (T.int IntKind.i64 v1), AV.t (T.int IntKind.i64 v2),
                                                                AV.own (Id.c 0),
                                                                AV.ref (Id.c 1) 0,
                                                                AV.t
                                                                  (T.int IntKind.i64 (IntKind.i64.wrap (v9 + (1 : Int))))]
                                                              [Blk.sl false 2 ec0 l,
                                                                Blk.box
                                                                  [AV.t (T.lst 1 ec1_0 c1_0),
                                                                    AV.t (T.int IntKind.i64 c1_1),
                                                                    AV.t (T.int IntKind.i64 c1_2)]]) := by kernel_rfl
theorem e27n9s2 (O : Orc) (v1 : Int) (v2 : Int) (v9 : Int) (v10 : Int) (v11 : Bool) (v12_0 : Bool) (ev12_1 : Bool) (v12_1 : List (List T)) (v13 : Int) (ec0 : Bool) (c0 : List (List T)) (ec1_0 : Bool) (c1_0 : List (List T)) (c1_1 : Int) (c1_2 : Int) : stepO PROG ann O K27n9m1 [(AV.t (T.int IntKind.i64 v1)), (AV.t (T.int IntKind.i64 v2)), (AV.own (Id.c 0)), (AV.ref (Id.c 1) 0), (AV.t (T.int IntKind.i64 v9)), (AV.t (T.int IntKind.i64 v10)), (AV.t (T.bool v11)), (AV.t (T.ptr [(T.bool v12_0), (T.lst 1 ev12_1 v12_1)])), (AV.t (T.int IntKind.i64 v13))] [(Blk.sl false 2 ec0 c0), (Blk.box [(AV.t (T.lst 1 ec1_0 c1_0)), (AV.t (T.int IntKind.i64 c1_1)), (AV.t (T.int IntKind.i64 c1_2))])] =
  (bif decide (v13 < (↑c1_0.length : Int)) then
    gdK none (if (0 : Int) ≤ v13 ∧ v13 < (↑c1_0.length : Int) then some () else none) fun x =>
      gdK none c1_0[v13.toNat]? fun l =>
        gdK none l.head? fun x =>
          gdK none (T.int? IntKind.i64 x) fun n =>
            bif bif v13 == v9 then true else IntKind.i64.wrap (v1 * n) == (0 : Int) then
              O
                K27n9m1
                [AV.t (T.int IntKind.i64 v1), AV.t (T.int IntKind.i64 v2), AV.own (Id.c 0),
                  AV.ref (Id.c 1) 0, AV.t (T.int IntKind.i64 v9), AV.t (T.int IntKind.i64 v10),
                  AV.t (T.bool v11), AV.t (T.ptr [T.bool v12_0, T.lst 1 ev12_1 v12_1]),
                  AV.t (T.int IntKind.i64 (IntKind.i64.wrap (v13 + (1 : Int))))]
                [Blk.sl false 2 ec0 c0,
                  Blk.box
                    [AV.t (T.lst 1 ec1_0 c1_0), AV.t (T.int IntKind.i64 c1_1), AV.t (T.int IntKind.i64 c1_2)]]
            else
              gdK none (if (0 : Int) ≤ v13 ∧ v13 < (↑c0.length : Int) then some () else none) fun x =>
                gdK none c0[v13.toNat]? fun l =>
                  gdK none l.head? fun x =>
                    gdK none (T.int? IntKind.i64 x) fun n_1 =>
                      bif decide (IntKind.i64.wrap (v1 * n) < (0 : Int)) then
                        gdK none (if (0 : Int) ≤ v13 ∧ v13 < (↑c0.length : Int) then some () else none) fun x =>
                          gdK none c0[v13.toNat]? fun l =>
                            gdK none (List.drop 1 l).head? fun x =>
                              gdK none (T.int? IntKind.i64 x) fun n_2 =>
                                bif
                                    bif
                                        bif decide (IntKind.i64.wrap (v1 * n) > (0 : Int)) then n_2 == (-1000000 : Int)
                                        else false then
                                      true
                                    else
                                      bif decide (IntKind.i64.wrap (v1 * n) < (0 : Int)) then n_2 == (1000000 : Int)
                                      else false then
                                  gdK none
                                    (O (Key.call 35) [AV.t (T.int IntKind.i64 (IntKind.i64.wrap (v1 * n)))] [])
                                    fun l =>
                                    gdK none l.head? fun x =>
                                      gdK none (O (Key.call 35) [AV.t (T.int IntKind.i64 n_2)] []) fun l =>
                                        gdK none l.head? fun x_1 =>
                                          gdK none
                                            (O (Key.call 37) [AV.ref (Id.c 0) 0, AV.t x, AV.t x_1]
                                              [Blk.box [AV.t (T.bool false), AV.t (T.emp true)]])
                                            fun l =>
                                            gdK none l.head? fun x =>
                                              gdK none (List.drop 1 l).head? fun x =>
                                                gdK none x.bool? fun b =>
                                                  gdK none (List.drop 1 l).tail.head? fun x =>
                                                    gdK none (T.lst? 1 x) fun p =>
                                                      gdK none
                                                        (O (Key.call 36)
                                                          [AV.ref (Id.c 0) 0,
                                                            AV.t (T.ptr [T.bool v12_0, T.lst 1 ev12_1 v12_1]),
                                                            AV.t (T.ptr [T.bool b, T.lst 1 p.fst p.snd])]
                                                          [Blk.box [AV.t (T.bool false), AV.t (T.emp true)]])
                                                        fun l =>
                                                        gdK none l.head? fun x =>
                                                          gdK none (List.drop 1 l).head? fun x =>
                                                            gdK none x.bool? fun b =>
                                                              gdK none (List.drop 1 l).tail.head? fun x =>
                                                                gdK none (T.lst? 1 x) fun p =>
                                                                  O
                                                                    K27n9m1
                                                                    [AV.t (T.int IntKind.i64 v1),
                                                                      AV.t (T.int IntKind.i64 v2),
                                                                      AV.own (Id.c 0),
                                                                      AV.ref (Id.c 1) 0,
                                                                      AV.t (T.int IntKind.i64 v9),
                                                                      AV.t (T.int IntKind.i64 v10), AV.t (T.bool false),
                                                                      AV.t
                                                                        (T.ptr [T.bool b, T.lst 1 p.fst p.snd]),
                                                                      AV.t
                                                                        (T.int IntKind.i64
                                                                          (IntKind.i64.wrap (v13 + (1 : Int))))]
                                                                    [Blk.sl false 2 ec0 c0,
                                                                      Blk.box
                                                                        [AV.t (T.lst 1 ec1_0 c1_0),
                                                                          AV.t (T.int IntKind.i64 c1_1),
                                                                          AV.t (T.int IntKind.i64 c1_2)]]
                                else
                                  gdK none
                                    (O (Key.call 35) [AV.t (T.int IntKind.i64 (IntKind.i64.wrap (v1 * n)))] [])
                                    fun l =>
                                    gdK none l.head? fun x =>
                                      gdK none (O (Key.call 35) [AV.t (T.int IntKind.i64 n_2)] []) fun l =>
                                        gdK none l.head? fun x_1 =>
                                          gdK none
                                            (O (Key.call 37) [AV.ref (Id.c 0) 0, AV.t x, AV.t x_1]
                                              [Blk.box [AV.t (T.bool false), AV.t (T.emp true)]])
                                            fun l =>
                                            gdK none l.head? fun x =>
                                              gdK none (List.drop 1 l).head? fun x =>
                                                gdK none x.bool? fun b =>
                                                  gdK none (List.drop 1 l).tail.head? fun x =>
                                                    gdK none (T.lst? 1 x) fun p =>
                                                      gdK none
                                                        (O (Key.call 36)
                                                          [AV.ref (Id.c 0) 0,
                                                            AV.t (T.ptr [T.bool v12_0, T.lst 1 ev12_1 v12_1]),
                                                            AV.t (T.ptr [T.bool b, T.lst 1 p.fst p.snd])]
                                                          [Blk.box [AV.t (T.bool false), AV.t (T.emp true)]])
                                                        fun l =>
                                                        gdK none l.head? fun x =>
                                                          gdK none (List.drop 1 l).head? fun x =>
                                                            gdK none x.bool? fun b =>
                                                              gdK none (List.drop 1 l).tail.head? fun x =>
                                                                gdK none (T.lst? 1 x) fun p =>
                                                                  O
                                                                    K27n9m1
                                                                    [AV.t (T.int IntKind.i64 v1),
                                                                      AV.t (T.int IntKind.i64 v2),
                                                                      AV.own (Id.c 0),
                                                                      AV.ref (Id.c 1) 0,
                                                                      AV.t (T.int IntKind.i64 v9),
                                                                      AV.t (T.int IntKind.i64 v10), AV.t (T.bool v11),
                                                                      AV.t
                                                                        (T.ptr [T.bool b, T.lst 1 p.fst p.snd]),
                                                                      AV.t
                                                                        (T.int IntKind.i64
                                                                          (IntKind.i64.wrap (v13 + (1 : Int))))]
                                                                    [Blk.sl false 2 ec0 c0,
                                                                      Blk.box
                                                                        [AV.t (T.lst 1 ec1_0 c1_0),
                                                                          AV.t (T.int IntKind.i64 c1_1),
                                                                          AV.t (T.int IntKind.i64 c1_2)]]
                      else
                        bif
                            bif
                                bif decide (IntKind.i64.wrap (v1 * n) > (0 : Int)) then n_1 == (-1000000 : Int)
                                else false then
                              true
                            else
                              bif decide (IntKind.i64.wrap (v1 * n) < (0 : Int)) then n_1 == (1000000 : Int)
                              else false then
                          gdK none (O (Key.call 35) [AV.t (T.int IntKind.i64 (IntKind.i64.wrap (v1 * n)))] [])
                            fun l =>
                            gdK none l.head? fun x =>
                              gdK none (O (Key.call 35) [AV.t (T.int IntKind.i64 n_1)] []) fun l =>
                                gdK none l.head? fun x_1 =>
                                  gdK none
                                    (O (Key.call 37) [AV.ref (Id.c 0) 0, AV.t x, AV.t x_1]
                                      [Blk.box [AV.t (T.bool false), AV.t (T.emp true)]])
                                    fun l =>
                                    gdK none l.head? fun x =>
                                      gdK none (List.drop 1 l).head? fun x =>
                                        gdK none x.bool? fun b =>
                                          gdK none (List.drop 1 l).tail.head? fun x =>
                                            gdK none (T.lst? 1 x) fun p =>
                                              gdK none
                                                (O (Key.call 36)
                                                  [AV.ref (Id.c 0) 0,
                                                    AV.t (T.ptr [T.bool v12_0, T.lst 1 ev12_1 v12_1]),
                                                    AV.t (T.ptr [T.bool b, T.lst 1 p.fst p.snd])]
                                                  [Blk.box [AV.t (T.bool false), AV.t (T.emp true)]])
                                                fun l =>
                                                gdK none l.head? fun x =>
                                                  gdK none (List.drop 1 l).head? fun x =>
                                                    gdK none x.bool? fun b =>
                                                      gdK none (List.drop 1 l).tail.head? fun x =>
                                                        gdK none (T.lst? 1 x) fun p =>
                                                          O
                                                            K27n9m1
                                                            [AV.t (T.int IntKind.i64 v1), AV.t (T.int IntKind.i64 v2),
                                                              AV.own (Id.c 0), AV.ref (Id.c 1) 0,
                                                              AV.t (T.int IntKind.i64 v9), AV.t (T.int IntKind.i64 v10),
                                                              AV.t (T.bool false),
                                                              AV.t (T.ptr [T.bool b, T.lst 1 p.fst p.snd]),
                                                              AV.t
                                                                (T.int IntKind.i64 (IntKind.i64.wrap (v13 + (1 : Int))))]
                                                            [Blk.sl false 2 ec0 c0,
                                                              Blk.box
                                                                [AV.t (T.lst 1 ec1_0 c1_0),
                                                                  AV.t (T.int IntKind.i64 c1_1),
                                                                  AV.t (T.int IntKind.i64 c1_2)]]
                        else
                          gdK none (O (Key.call 35) [AV.t (T.int IntKind.i64 (IntKind.i64.wrap (v1 * n)))] [])
                            fun l =>
                            gdK none l.head? fun x =>
                              gdK none (O (Key.call 35) [AV.t (T.int IntKind.i64 n_1)] []) fun l =>
                                gdK none l.head? fun x_1 =>
                                  gdK none
                                    (O (Key.call 37) [AV.ref (Id.c 0) 0, AV.t x, AV.t x_1]
                                      [Blk.box [AV.t (T.bool false), AV.t (T.emp true)]])
                                    fun l =>
                                    gdK none l.head? fun x =>
                                      gdK none (List.drop 1 l).head? fun x =>
                                        gdK none x.bool? fun b =>
                                          gdK none (List.drop 1 l).tail.head? fun x =>
                                            gdK none (T.lst? 1 x) fun p =>
                                              gdK none
                                                (O (Key.call 36)
                                                  [AV.ref (Id.c 0) 0,
                                                    AV.t (T.ptr [T.bool v12_0, T.lst 1 ev12_1 v12_1]),
                                                    AV.t (T.ptr [T.bool b, T.lst 1 p.fst p.snd])]
                                                  [Blk.box [AV.t (T.bool false), AV.t (T.emp true)]])
                                                fun l =>
                                                gdK none l.head? fun x =>
                                                  gdK none (List.drop 1 l).head? fun x =>
                                                    gdK none x.bool? fun b =>
                                                      gdK none (List.drop 1 l).tail.head? fun x =>
                                                        gdK none (T.lst? 1 x) fun p =>
                                                          O
                                                            K27n9m1
                                                            [AV.t (T.int IntKind.i64 v1), AV.t (T.int IntKind.i64 v2),
                                                              AV.own (Id.c 0), AV.ref (Id.c 1) 0,
                                                              AV.t (T.int IntKind.i64 v9), AV.t (T.int IntKind.i64 v10),
                                                              AV.t (T.bool v11),
                                                              AV.t (T.ptr [T.bool b, T.lst 1 p.fst p.snd]),
                                                              AV.t
                                                                (T.int IntKind.i64 (IntKind.i64.wrap (v13 + (1 : Int))))]
                                                            [Blk.sl false 2 ec0 c0,
                                                              Blk.box
                                                                [AV.t (T.lst 1 ec1_0 c1_0),
                                                                  AV.t (T.int IntKind.i64 c1_1),
                                                                  AV.t (T.int IntKind.i64 c1_2)]]
  else
    bif !v11 then
      O
        K27n2m1
        [AV.t (T.int IntKind.i64 v1), AV.t (T.int IntKind.i64 v2), AV.own (Id.c 0),
          AV.ref (Id.c 1) 0, AV.t (T.int IntKind.i64 (IntKind.i64.wrap (v9 + (1 : Int))))]
        [Blk.sl false 2 ec0 c0,
          Blk.box [AV.t (T.lst 1 ec1_0 c1_0), AV.t (T.int IntKind.i64 c1_1), AV.t (T.int IntKind.i64 c1_2)]]
    else
      bif decide (v10 > (0 : Int)) then
        gdK none (O (Key.call 35) [AV.t (T.int IntKind.i64 v10)] []) fun l =>
          gdK none l.head? fun x =>
            gdK none
              (O (Key.call 38)
                [AV.ref (Id.c 0) 0, AV.t (T.ptr [T.bool v12_0, T.lst 1 ev12_1 v12_1]), AV.t x]
                [Blk.box [AV.t (T.bool false), AV.t (T.emp true)]])
              fun l =>
              gdK none l.head? fun x =>
                gdK none (List.drop 1 l).head? fun x =>
                  gdK none x.bool? fun b =>
                    gdK none (List.drop 1 l).tail.head? fun x =>
                      gdK none (T.lst? 1 x) fun p =>
                        gdK none (O (Key.call 39) [AV.t (T.ptr [T.bool b, T.lst 1 p.fst p.snd])] [])
                          fun l =>
                          gdK none l.head? fun x =>
                            gdK none (T.int? IntKind.i64 x) fun n =>
                              gdK none (if (0 : Int) ≤ v9 ∧ v9 < (↑c0.length : Int) then some () else none) fun x =>
                                gdK none c0[v9.toNat]? fun l =>
                                  gdK none (List.drop 1 l).head? fun x =>
                                    gdK none (T.int? IntKind.i64 x) fun n_1 =>
                                      gdK none (if (0 : Int) ≤ v9 ∧ v9 < (↑c0.length : Int) then some () else none)
                                        fun x =>
                                        gdK none
                                          (storeIn v9.toNat 1
                                            [T.int IntKind.i64 (mm false n_1 (mm true n (-999999 : Int)))] c0)
                                          fun l =>
                                          gdK none (if (0 : Int) ≤ v9 ∧ v9 < (↑l.length : Int) then some () else none)
                                            fun x =>
                                            gdK none l[v9.toNat]? fun l_1 =>
                                              gdK none l_1.head? fun x =>
                                                gdK none (T.int? IntKind.i64 x) fun n =>
                                                  gdK none
                                                    (if (0 : Int) ≤ v9 ∧ v9 < (↑l.length : Int) then some () else none)
                                                    fun x =>
                                                    gdK none l[v9.toNat]? fun l_2 =>
                                                      gdK none (List.drop 1 l_2).head? fun x =>
                                                        gdK none (T.int? IntKind.i64 x) fun n_2 =>
                                                          bif decide (n > n_2) then
                                                            some [T.bool false, T.lst 2 ec0 l]
                                                          else
                                                            O
                                                              K27n2m1
                                                              [AV.t (T.int IntKind.i64 v1), AV.t (T.int IntKind.i64 v2),
                                                                AV.own (Id.c 0),
                                                                AV.ref (Id.c 1) 0,
                                                                AV.t
                                                                  (T.int IntKind.i64 (IntKind.i64.wrap (v9 + (1 : Int))))]
                                                              [Blk.sl false 2 ec0 l,
                                                                Blk.box
                                                                  [AV.t (T.lst 1 ec1_0 c1_0),
                                                                    AV.t (T.int IntKind.i64 c1_1),
                                                                    AV.t (T.int IntKind.i64 c1_2)]]
      else
        gdK none (O (Key.call 35) [AV.t (T.int IntKind.i64 (IntKind.i64.wrap ((0 : Int) - v10)))] []) fun l =>
          gdK none l.head? fun x =>
            gdK none
              (O (Key.call 38)
                [AV.ref (Id.c 0) 0, AV.t (T.ptr [T.bool v12_0, T.lst 1 ev12_1 v12_1]), AV.t x]
                [Blk.box [AV.t (T.bool false), AV.t (T.emp true)]])
              fun l =>
              gdK none l.head? fun x =>
                gdK none (List.drop 1 l).head? fun x =>
                  gdK none x.bool? fun b =>
                    gdK none (List.drop 1 l).tail.head? fun x =>
                      gdK none (T.lst? 1 x) fun p =>
                        gdK none (O (Key.call 39) [AV.t (T.ptr [T.bool b, T.lst 1 p.fst p.snd])] [])
                          fun l =>
                          gdK none l.head? fun x =>
                            gdK none (T.int? IntKind.i64 x) fun n =>
                              gdK none (if (0 : Int) ≤ v9 ∧ v9 < (↑c0.length : Int) then some () else none) fun x =>
                                gdK none c0[v9.toNat]? fun l =>
                                  gdK none l.head? fun x =>
                                    gdK none (T.int? IntKind.i64 x) fun n_1 =>
                                      gdK none (if (0 : Int) ≤ v9 ∧ v9 < (↑c0.length : Int) then some () else none)
                                        fun x =>
                                        gdK none
                                          (storeIn v9.toNat 0
                                            [T.int IntKind.i64
                                                (mm true n_1
                                                  (mm false (IntKind.i64.wrap ((0 : Int) - n)) (999999 : Int)))]
                                            c0)
                                          fun l =>
                                          gdK none (if (0 : Int) ≤ v9 ∧ v9 < (↑l.length : Int) then some () else none)
                                            fun x =>
                                            gdK none l[v9.toNat]? fun l_1 =>
                                              gdK none l_1.head? fun x =>
                                                gdK none (T.int? IntKind.i64 x) fun n =>
                                                  gdK none
                                                    (if (0 : Int) ≤ v9 ∧ v9 < (↑l.length : Int) then some () else none)
                                                    fun x =>
                                                    gdK none l[v9.toNat]? fun l_2 =>
                                                      gdK none (List.drop 1 l_2).head? fun x =>
                                                        gdK none (T.int? IntKind.i64 x) fun n_2 =>
                                                          bif decide (n > n_2) then
                                                            some [T.bool false, T.lst 2 ec0 l]
                                                          else
                                                            O
                                                              K27n2m1
                                                              [AV.t (T.int IntKind.i64 v1), AV.t (T.int IntKind.i64 v2),
                                                                AV.own (Id.c 0),
                                                                AV.ref (Id.c 1) 0,
                                                                AV.t
                                                                  (T.int IntKind.i64 (IntKind.i64.wrap (v9 + (1 : Int))))]
                                                              [Blk.sl false 2 ec0 l,
                                                                Blk.box
                                                                  [AV.t (T.lst 1 ec1_0 c1_0),
                                                                    AV.t (T.int IntKind.i64 c1_1),
                                                                    AV.t (T.int IntKind.i64 c1_2)]]) := by kernel_rfl
theorem e35 (O : Orc) (n : Int) : stepO PROG ann O (Key.call 35) [AV.t (T.int .i64 n)] [] =
  (gdK none
    (O (Key.call 48) [AV.ref (Id.c 0) 0, AV.t (T.int IntKind.i64 n)]
      [Blk.box [AV.t (T.bool false), AV.t (T.emp true)]])
    fun l =>
    gdK none l.head? fun x =>
      gdK none (List.drop 1 l).head? fun x =>
        gdK none x.bool? fun b =>
          gdK none (List.drop 1 l).tail.head? fun x =>
            gdK none (T.lst? 1 x) fun p => some [T.ptr [T.bool b, T.lst 1 p.fst p.snd]]) := by kernel_rfl
theorem e48 (O : Orc) (s : Bool) (y : T) (n : Int) : stepO PROG ann O (Key.call 48) [AV.ref (Id.c 0) 0, AV.t (T.int .i64 n)] [Blk.box [AV.t (T.bool s), AV.t y]] =
  (bif decide (n < (0 : Int)) then
    gdK none
      (O (Key.call 65)
        [AV.ref (Id.c 0) 0, AV.t (T.int IntKind.u64 (IntKind.u64.wrap ((0 : Int) - IntKind.u64.wrap n)))]
        [Blk.box [AV.t (T.bool s), AV.t y]])
      fun l =>
      gdK none l.head? fun x =>
        gdK none (List.drop 1 l).head? fun x =>
          gdK none x.bool? fun b =>
            gdK none (List.drop 1 l).tail.head? fun x =>
              gdK none (T.lst? 1 x) fun p => some [T.nilp, T.bool true, T.lst 1 p.fst p.snd]
  else
    gdK none
      (O (Key.call 65) [AV.ref (Id.c 0) 0, AV.t (T.int IntKind.u64 (IntKind.u64.wrap n))]
        [Blk.box [AV.t (T.bool s), AV.t y]])
      fun l =>
      gdK none l.head? fun x =>
        gdK none (List.drop 1 l).head? fun x =>
          gdK none x.bool? fun b =>
            gdK none (List.drop 1 l).tail.head? fun x =>
              gdK none (T.lst? 1 x) fun p => some [T.nilp, T.bool b, T.lst 1 p.fst p.snd]) := by kernel_rfl
theorem e65 (O : Orc) (s : Bool) (y : T) (n : Int) : stepO PROG ann O (Key.call 65) [AV.ref (Id.c 0) 0, AV.t (T.int .u64 n)] [Blk.box [AV.t (T.bool s), AV.t y]] =
  (gdK none
    (O (Key.call 51) [AV.ref (Id.c 0) 0]
      [Blk.box [AV.t (T.bool false), AV.own (Id.c 1)],
        Blk.sl false 1 false
          [[T.int IntKind.u32 (IntKind.u32.wrap n)],
            [T.int IntKind.u32 (IntKind.u32.wrap (n.fdiv ((2 : Int) ^ 32)))]]])
    fun l =>
    gdK none l.head? fun x =>
      gdK none (List.drop 1 l).head? fun x =>
        gdK none x.bool? fun b =>
          gdK none (List.drop 1 l).tail.head? fun x =>
            gdK none (T.lst? 1 x) fun p => some [T.nilp, T.bool b, T.lst 1 p.fst p.snd]) := by kernel_rfl
theorem e51 (O : Orc) (s : Bool) (e : Bool) (d : List (List T)) : stepO PROG ann O (Key.call 51) [AV.ref (Id.c 0) 0] [Blk.box [AV.t (T.bool s), AV.own (Id.c 1)], Blk.sl false 1 e d] =
  (O K51n2m2
    [AV.ref (Id.c 0) 0, AV.t (T.int IntKind.i64 (↑d.length : Int))]
    [Blk.box [AV.t (T.bool s), AV.own (Id.c 1)], Blk.sl false 1 e d]) := by kernel_rfl
theorem e51n2 (O : Orc) (v3 : Int) (c0_0 : Bool) (ec1 : Bool) (c1 : List (List T)) : stepO PROG ann O K51n2m2 [(AV.ref (Id.c 0) 0), (AV.t (T.int IntKind.i64 v3))] [(Blk.box [(AV.t (T.bool c0_0)), (AV.own (Id.c 1))]), (Blk.sl false 1 ec1 c1)] =
  (gdK (some (decide (v3 > (0 : Int))))
    (if (0 : Int) ≤ IntKind.i64.wrap (v3 - (1 : Int)) ∧ IntKind.i64.wrap (v3 - (1 : Int)) < (↑c1.length : Int) then
      some ()
    else none)
    fun x =>
    gdK (some (decide (v3 > (0 : Int)))) c1[(IntKind.i64.wrap (v3 - (1 : Int))).toNat]? fun l =>
      gdK (some (decide (v3 > (0 : Int)))) l.head? fun x =>
        gdK (some (decide (v3 > (0 : Int)))) (T.int? IntKind.u32 x) fun n =>
          bif bif decide (v3 > (0 : Int)) then n == (0 : Int) else false then
            O K51n2m2
              [AV.ref (Id.c 0) 0, AV.t (T.int IntKind.i64 (IntKind.i64.wrap (v3 - (1 : Int))))]
              [Blk.box [AV.t (T.bool c0_0), AV.own (Id.c 1)], Blk.sl false 1 ec1 c1]
          else
            gdK none (inB (0 : Int) v3 (↑c1.length : Int)) fun x =>
              bif v3 == (0 : Int) then
                some [T.nilp, T.bool false, T.lst 1 ec1 (List.take (v3.toNat - 0) c1)]
              else some [T.nilp, T.bool c0_0, T.lst 1 ec1 (List.take (v3.toNat - 0) c1)]) := by kernel_rfl
theorem e51t (O : Orc) (s : Bool) (e : Bool) (d : List (List T)) : stepO PROG ann O (Key.call 51) [AV.ref (Id.c 0) 0] [Blk.box [AV.t (T.bool s), AV.t (T.lst 1 e d)]] =
  (O K51n2m1
    [AV.ref (Id.c 0) 0, AV.t (T.int IntKind.i64 (↑d.length : Int))]
    [Blk.box [AV.t (T.bool s), AV.t (T.lst 1 e d)]]) := by kernel_rfl
theorem e51n2s2 (O : Orc) (v3 : Int) (c0_0 : Bool) (ec0_1 : Bool) (c0_1 : List (List T)) : stepO PROG ann O K51n2m1 [(AV.ref (Id.c 0) 0), (AV.t (T.int IntKind.i64 v3))] [(Blk.box [(AV.t (T.bool c0_0)), (AV.t (T.lst 1 ec0_1 c0_1))])] =
  (gdK (some (decide (v3 > (0 : Int))))
    (if (0 : Int) ≤ IntKind.i64.wrap (v3 - (1 : Int)) ∧ IntKind.i64.wrap (v3 - (1 : Int)) < (↑c0_1.length : Int) then
      some ()
    else none)
    fun x =>
    gdK (some (decide (v3 > (0 : Int)))) c0_1[(IntKind.i64.wrap (v3 - (1 : Int))).toNat]? fun l =>
      gdK (some (decide (v3 > (0 : Int)))) l.head? fun x =>
        gdK (some (decide (v3 > (0 : Int)))) (T.int? IntKind.u32 x) fun n =>
          bif bif decide (v3 > (0 : Int)) then n == (0 : Int) else false then
            O K51n2m1
              [AV.ref (Id.c 0) 0, AV.t (T.int IntKind.i64 (IntKind.i64.wrap (v3 - (1 : Int))))]
              [Blk.box [AV.t (T.bool c0_0), AV.t (T.lst 1 ec0_1 c0_1)]]
          else
            gdK none (inB (0 : Int) v3 (↑c0_1.length : Int)) fun x =>
              bif v3 == (0 : Int) then some [T.nilp, T.bool false, T.lst 1 ec0_1 (sub (0 : Int) v3 c0_1)]
              else some [T.nilp, T.bool c0_0, T.lst 1 ec0_1 (sub (0 : Int) v3 c0_1)]) := by kernel_rfl
theorem e69 (O : Orc) (s : Bool) (y : T) (s2 : Bool) (e2 : Bool) (d2 : List (List T)) : stepO PROG ann O (Key.call 69) [AV.ref (Id.c 0) 0, AV.t (T.ptr [T.bool s2, T.lst 1 e2 d2])] [Blk.box [AV.t (T.bool s), AV.t y]] =
  (gdK none (small 4 d2.length) fun x => some [T.nilp, T.bool s2, T.lst 1 false d2]) := by kernel_rfl
theorem e50 (O : Orc) (s : Bool) (y : T) (s2 : Bool) (e2 : Bool) (d2 : List (List T)) : stepO PROG ann O (Key.call 50) [AV.ref (Id.c 0) 0, AV.t (T.ptr [T.bool s2, T.lst 1 e2 d2])] [Blk.box [AV.t (T.bool s), AV.t y]] =
  (gdK none
    (O (Key.call 69) [AV.ref (Id.c 0) 0, AV.t (T.ptr [T.bool s2, T.lst 1 e2 d2])]
      [Blk.box [AV.t (T.bool s), AV.t y]])
    fun l =>
    gdK none l.head? fun x =>
      gdK none (List.drop 1 l).head? fun x =>
        gdK none x.bool? fun b =>
          gdK none (List.drop 1 l).tail.head? fun x =>
            gdK none (T.lst? 1 x) fun p =>
              some
                [T.nilp, T.bool (bif !b then decide ((↑p.snd.length : Int) > (0 : Int)) else false),
                  T.lst 1 p.fst p.snd]) := by kernel_rfl
theorem e49 (O : Orc) (s : Bool) (y : T) (s2 : Bool) (e2 : Bool) (d2 : List (List T)) (s3 : Bool) (e3 : Bool) (d3 : List (List T)) : stepO PROG ann O (Key.call 49) [AV.ref (Id.c 0) 0, AV.t (T.ptr [T.bool s2, T.lst 1 e2 d2]), AV.t (T.ptr [T.bool s3, T.lst 1 e3 d3])] [Blk.box [AV.t (T.bool s), AV.t y]] =
  (bif s2 == s3 then
    gdK none (O (Key.call 66) [AV.t (T.lst 1 e2 d2), AV.t (T.lst 1 e3 d3)] []) fun l =>
      gdK none l.head? fun x =>
        gdK none (T.lst? 1 x) fun p =>
          gdK none
            (O (Key.call 51) [AV.ref (Id.c 0) 0]
              [Blk.box [AV.t (T.bool s2), AV.own (Id.c 1)], Blk.sl false 1 p.fst p.snd])
            fun l =>
            gdK none l.head? fun x =>
              gdK none (List.drop 1 l).head? fun x =>
                gdK none x.bool? fun b =>
                  gdK none (List.drop 1 l).tail.head? fun x =>
                    gdK none (T.lst? 1 x) fun p => some [T.nilp, T.bool b, T.lst 1 p.fst p.snd]
  else
    gdK none
      (O (Key.call 67)
        [AV.t (T.ptr [T.bool s2, T.lst 1 e2 d2]), AV.t (T.ptr [T.bool s3, T.lst 1 e3 d3])] [])
      fun l =>
      gdK none l.head? fun x =>
        gdK none (T.int? IntKind.i64 x) fun n =>
          bif decide (n ≥ (0 : Int)) then
            gdK none (O (Key.call 68) [AV.t (T.lst 1 e2 d2), AV.t (T.lst 1 e3 d3)] []) fun l =>
              gdK none l.head? fun x =>
                gdK none (T.lst? 1 x) fun p =>
                  gdK none
                    (O (Key.call 51) [AV.ref (Id.c 0) 0]
                      [Blk.box [AV.t (T.bool s2), AV.own (Id.c 1)], Blk.sl false 1 p.fst p.snd])
                    fun l =>
                    gdK none l.head? fun x =>
                      gdK none (List.drop 1 l).head? fun x =>
                        gdK none x.bool? fun b =>
                          gdK none (List.drop 1 l).tail.head? fun x =>
                            gdK none (T.lst? 1 x) fun p => some [T.nilp, T.bool b, T.lst 1 p.fst p.snd]
          else
            gdK none (O (Key.call 68) [AV.t (T.lst 1 e3 d3), AV.t (T.lst 1 e2 d2)] []) fun l =>
              gdK none l.head? fun x =>
                gdK none (T.lst? 1 x) fun p =>
                  gdK none
                    (O (Key.call 51) [AV.ref (Id.c 0) 0]
                      [Blk.box [AV.t (T.bool s3), AV.own (Id.c 1)], Blk.sl false 1 p.fst p.snd])
                    fun l =>
                    gdK none l.head? fun x =>
                      gdK none (List.drop 1 l).head? fun x =>
                        gdK none x.bool? fun b =>
                          gdK none (List.drop 1 l).tail.head? fun x =>
                            gdK none (T.lst? 1 x) fun p => some [T.nilp, T.bool b, T.lst 1 p.fst p.snd]) := by kernel_rfl
theorem e49z (O : Orc) (s : Bool) (e : Bool) (d : List (List T)) (s3 : Bool) (e3 : Bool) (d3 : List (List T)) : stepO PROG ann O (Key.call 49) [AV.ref (Id.c 0) 0, AV.ref (Id.c 0) 0, AV.t (T.ptr [T.bool s3, T.lst 1 e3 d3])] [Blk.box [AV.t (T.bool s), AV.t (T.lst 1 e d)]] =
  (bif s == s3 then
    gdK none (O (Key.call 66) [AV.t (T.lst 1 e d), AV.t (T.lst 1 e3 d3)] []) fun l =>
      gdK none l.head? fun x =>
        gdK none (T.lst? 1 x) fun p =>
          gdK none
            (O (Key.call 51) [AV.ref (Id.c 0) 0]
              [Blk.box [AV.t (T.bool s), AV.own (Id.c 1)], Blk.sl false 1 p.fst p.snd])
            fun l =>
            gdK none l.head? fun x =>
              gdK none (List.drop 1 l).head? fun x =>
                gdK none x.bool? fun b =>
                  gdK none (List.drop 1 l).tail.head? fun x =>
                    gdK none (T.lst? 1 x) fun p => some [T.nilp, T.bool b, T.lst 1 p.fst p.snd]
  else
    gdK none
      (O (Key.call 67)
        [AV.t (T.ptr [T.bool s, T.lst 1 e d]), AV.t (T.ptr [T.bool s3, T.lst 1 e3 d3])] [])
      fun l =>
      gdK none l.head? fun x =>
        gdK none (T.int? IntKind.i64 x) fun n =>
          bif decide (n ≥ (0 : Int)) then
            gdK none (O (Key.call 68) [AV.t (T.lst 1 e d), AV.t (T.lst 1 e3 d3)] []) fun l =>
              gdK none l.head? fun x =>
                gdK none (T.lst? 1 x) fun p =>
                  gdK none
                    (O (Key.call 51) [AV.ref (Id.c 0) 0]
                      [Blk.box [AV.t (T.bool s), AV.own (Id.c 1)], Blk.sl false 1 p.fst p.snd])
                    fun l =>
                    gdK none l.head? fun x =>
                      gdK none (List.drop 1 l).head? fun x =>
                        gdK none x.bool? fun b =>
                          gdK none (List.drop 1 l).tail.head? fun x =>
                            gdK none (T.lst? 1 x) fun p => some [T.nilp, T.bool b, T.lst 1 p.fst p.snd]
          else
            gdK none (O (Key.call 68) [AV.t (T.lst 1 e3 d3), AV.t (T.lst 1 e d)] []) fun l =>
              gdK none l.head? fun x =>
                gdK none (T.lst? 1 x) fun p =>
                  gdK none
                    (O (Key.call 51) [AV.ref (Id.c 0) 0]
                      [Blk.box [AV.t (T.bool s3), AV.own (Id.c 1)], Blk.sl false 1 p.fst p.snd])
                    fun l =>
                    gdK none l.head? fun x =>
                      gdK none (List.drop 1 l).head? fun x =>
                        gdK none x.bool? fun b =>
                          gdK none (List.drop 1 l).tail.head? fun x =>
                            gdK none (T.lst? 1 x) fun p => some [T.nilp, T.bool b, T.lst 1 p.fst p.snd]) := by kernel_rfl
theorem e36 (O : Orc) (s : Bool) (y : T) (s2 : Bool) (e2 : Bool) (d2 : List (List T)) (s3 : Bool) (e3 : Bool) (d3 : List (List T)) : stepO PROG ann O (Key.call 36) [AV.ref (Id.c 0) 0, AV.t (T.ptr [T.bool s2, T.lst 1 e2 d2]), AV.t (T.ptr [T.bool s3, T.lst 1 e3 d3])] [Blk.box [AV.t (T.bool s), AV.t y]] =
  (gdK none
    (O (Key.call 50) [AV.ref (Id.c 0) 0, AV.t (T.ptr [T.bool s3, T.lst 1 e3 d3])]
      [Blk.box [AV.t (T.bool false), AV.t (T.emp true)]])
    fun l =>
    gdK none l.head? fun x =>
      gdK none (List.drop 1 l).head? fun x =>
        gdK none x.bool? fun b =>
          gdK none (List.drop 1 l).tail.head? fun x =>
            gdK none (T.lst? 1 x) fun p =>
              gdK none
                (O (Key.call 49)
                  [AV.ref (Id.c 0) 0, AV.t (T.ptr [T.bool s2, T.lst 1 e2 d2]),
                    AV.t (T.ptr [T.bool b, T.lst 1 p.fst p.snd])]
                  [Blk.box [AV.t (T.bool s), AV.t y]])
                fun l =>
                gdK none l.head? fun x =>
                  gdK none (List.drop 1 l).head? fun x =>
                    gdK none x.bool? fun b =>
                      gdK none (List.drop 1 l).tail.head? fun x =>
                        gdK none (T.lst? 1 x) fun p => some [T.nilp, T.bool b, T.lst 1 p.fst p.snd]) := by kernel_rfl
theorem e36z (O : Orc) (s : Bool) (e : Bool) (d : List (List T)) (s3 : Bool) (e3 : Bool) (d3 : List (List T)) : stepO PROG ann O (Key.call 36) [AV.ref (Id.c 0) 0, AV.ref (Id.c 0) 0, AV.t (T.ptr [T.bool s3, T.lst 1 e3 d3])] [Blk.box [AV.t (T.bool s), AV.t (T.lst 1 e d)]] =
  (gdK none
    (O (Key.call 50) [AV.ref (Id.c 0) 0, AV.t (T.ptr [T.bool s3, T.lst 1 e3 d3])]
      [Blk.box [AV.t (T.bool false), AV.t (T.emp true)]])
    fun l =>
    gdK none l.head? fun x =>
      gdK none (List.drop 1 l).head? fun x =>
        gdK none x.bool? fun b =>
          gdK none (List.drop 1 l).tail.head? fun x =>
            gdK none (T.lst? 1 x) fun p =>
              gdK none
                (O (Key.call 49)
                  [AV.ref (Id.c 0) 0, AV.ref (Id.c 0) 0,
                    AV.t (T.ptr [T.bool b, T.lst 1 p.fst p.snd])]
                  [Blk.box [AV.t (T.bool s), AV.t (T.lst 1 e d)]])
                fun l =>
                gdK none l.head? fun x =>
                  gdK none (List.drop 1 l).head? fun x =>
                    gdK none x.bool? fun b =>
                      gdK none (List.drop 1 l).tail.head? fun x =>
                        gdK none (T.lst? 1 x) fun p => some [T.nilp, T.bool b, T.lst 1 p.fst p.snd]) := by kernel_rfl
theorem e37 (O : Orc) (s : Bool) (y : T) (s2 : Bool) (e2 : Bool) (d2 : List (List T)) (s3 : Bool) (e3 : Bool) (d3 : List (List T)) : stepO PROG ann O (Key.call 37) [AV.ref (Id.c 0) 0, AV.t (T.ptr [T.bool s2, T.lst 1 e2 d2]), AV.t (T.ptr [T.bool s3, T.lst 1 e3 d3])] [Blk.box [AV.t (T.bool s), AV.t y]] =
  (gdK none
    (mkOk (IntKind.i64.wrap ((↑d2.length : Int) + (↑d3.length : Int)))
      (IntKind.i64.wrap ((↑d2.length : Int) + (↑d3.length : Int))))
    fun x =>
    O
      K37n3m1
      [AV.ref (Id.c 0) 0, AV.t (T.ptr [T.bool s2, T.lst 1 e2 d2]),
        AV.t (T.ptr [T.bool s3, T.lst 1 e3 d3]), AV.own (Id.c 1), AV.t (T.lst 1 e2 d2),
        AV.t (T.int IntKind.i64 (↑d2.length : Int)), AV.t (T.int IntKind.i64 (0 : Int))]
      [Blk.box [AV.t (T.bool s), AV.t y],
        Blk.sl false 1 false
          (List.replicate (IntKind.i64.wrap ((↑d2.length : Int) + (↑d3.length : Int))).toNat
            [T.int IntKind.u32 (0 : Int)])]) := by kernel_rfl
theorem e37n3 (O : Orc) (v1_0 : Bool) (ev1_1 : Bool) (v1_1 : List (List T)) (v2_0 : Bool) (ev2_1 : Bool) (v2_1 : List (List T)) (ev28 : Bool) (v28 : List (List T)) (v29 : Int) (v30 : Int) (c0_0 : Bool) (c0_1 : T) (ec1 : Bool) (c1 : List (List T)) : stepO PROG ann O K37n3m1 [(AV.ref (Id.c 0) 0), (AV.t (T.ptr [(T.bool v1_0), (T.lst 1 ev1_1 v1_1)])), (AV.t (T.ptr [(T.bool v2_0), (T.lst 1 ev2_1 v2_1)])), (AV.own (Id.c 1)), (AV.t (T.lst 1 ev28 v28)), (AV.t (T.int IntKind.i64 v29)), (AV.t (T.int IntKind.i64 v30))] [(Blk.box [(AV.t (T.bool c0_0)), (AV.t c0_1)]), (Blk.sl false 1 ec1 c1)] =
  (bif decide (v30 < v29) then
    gdK none (if (0 : Int) ≤ v30 ∧ v30 < (↑v28.length : Int) then some () else none) fun x =>
      gdK none v28[v30.toNat]? fun l =>
        gdK none l.head? fun x =>
          gdK none (T.int? IntKind.u32 x) fun n =>
            O
              K37n7m1
              [AV.ref (Id.c 0) 0, AV.t (T.ptr [T.bool v1_0, T.lst 1 ev1_1 v1_1]),
                AV.t (T.ptr [T.bool v2_0, T.lst 1 ev2_1 v2_1]), AV.own (Id.c 1),
                AV.t (T.int IntKind.i64 v30), AV.t (T.int IntKind.u32 n), AV.t (T.int IntKind.u64 (0 : Int)),
                AV.t (T.lst 1 ev28 v28), AV.t (T.int IntKind.i64 v29), AV.t (T.int IntKind.i64 v30),
                AV.t (T.lst 1 ev2_1 v2_1), AV.t (T.int IntKind.i64 (↑v2_1.length : Int)),
                AV.t (T.int IntKind.i64 (0 : Int))]
              [Blk.box [AV.t (T.bool c0_0), AV.t c0_1], Blk.sl false 1 ec1 c1]
  else
    gdK none
      (O (Key.call 51) [AV.ref (Id.c 0) 0]
        [Blk.box [AV.t (T.bool !v1_0 == v2_0), AV.own (Id.c 1)], Blk.sl false 1 ec1 c1])
      fun l =>
      gdK none l.head? fun x =>
        gdK none (List.drop 1 l).head? fun x =>
          gdK none x.bool? fun b =>
            gdK none (List.drop 1 l).tail.head? fun x =>
              gdK none (T.lst? 1 x) fun p => some [T.nilp, T.bool b, T.lst 1 p.fst p.snd]) := by kernel_rfl
theorem e37n7 (O : Orc) (v1_0 : Bool) (ev1_1 : Bool) (v1_1 : List (List T)) (v2_0 : Bool) (ev2_1 : Bool) (v2_1 : List (List T)) (v8 : Int) (v9 : Int) (v10 : Int) (ev28 : Bool) (v28 : List (List T)) (v29 : Int) (v30 : Int) (ev38 : Bool) (v38 : List (List T)) (v39 : Int) (v40 : Int) (c0_0 : Bool) (c0_1 : T) (ec1 : Bool) (c1 : List (List T)) : stepO PROG ann O K37n7m1 [(AV.ref (Id.c 0) 0), (AV.t (T.ptr [(T.bool v1_0), (T.lst 1 ev1_1 v1_1)])), (AV.t (T.ptr [(T.bool v2_0), (T.lst 1 ev2_1 v2_1)])), (AV.own (Id.c 1)), (AV.t (T.int IntKind.i64 v8)), (AV.t (T.int IntKind.u32 v9)), (AV.t (T.int IntKind.u64 v10)), (AV.t (T.lst 1 ev28 v28)), (AV.t (T.int IntKind.i64 v29)), (AV.t (T.int IntKind.i64 v30)), (AV.t (T.lst 1 ev38 v38)), (AV.t (T.int IntKind.i64 v39)), (AV.t (T.int IntKind.i64 v40))] [(Blk.box [(AV.t (T.bool c0_0)), (AV.t c0_1)]), (Blk.sl false 1 ec1 c1)] =
  (bif decide (v40 < v39) then
    gdK none (if (0 : Int) ≤ v40 ∧ v40 < (↑v38.length : Int) then some () else none) fun x =>
      gdK none v38[v40.toNat]? fun l =>
        gdK none l.head? fun x =>
          gdK none (T.int? IntKind.u32 x) fun n =>
            gdK none
              (if (0 : Int) ≤ IntKind.i64.wrap (v8 + v40) ∧ IntKind.i64.wrap (v8 + v40) < (↑c1.length : Int) then some ()
              else none)
              fun x =>
              gdK none c1[(IntKind.i64.wrap (v8 + v40)).toNat]? fun l =>
                gdK none l.head? fun x =>
                  gdK none (T.int? IntKind.u32 x) fun n_1 =>
                    gdK none
                      (if (0 : Int) ≤ IntKind.i64.wrap (v8 + v40) ∧ IntKind.i64.wrap (v8 + v40) < (↑c1.length : Int) then
                        some ()
                      else none)
                      fun x =>
                      gdK none
                        (storeIn (IntKind.i64.wrap (v8 + v40)).toNat 0
                          [T.int IntKind.u32
                              (IntKind.u32.wrap
                                (IntKind.u64.wrap
                                  (v10 +
                                    IntKind.u64.wrap
                                      (IntKind.u64.wrap (IntKind.u64.wrap v9 * IntKind.u64.wrap n) +
                                        IntKind.u64.wrap n_1))))]
                          c1)
                        fun l =>
                        O
                          K37n7m1
                          [AV.ref (Id.c 0) 0, AV.t (T.ptr [T.bool v1_0, T.lst 1 ev1_1 v1_1]),
                            AV.t (T.ptr [T.bool v2_0, T.lst 1 ev2_1 v2_1]), AV.own (Id.c 1),
                            AV.t (T.int IntKind.i64 v8), AV.t (T.int IntKind.u32 v9),
                            AV.t
                              (T.int IntKind.u64
                                ((IntKind.u64.wrap
                                      (v10 +
                                        IntKind.u64.wrap
                                          (IntKind.u64.wrap (IntKind.u64.wrap v9 * IntKind.u64.wrap n) +
                                            IntKind.u64.wrap n_1))).fdiv
                                  ((2 : Int) ^ 32))),
                            AV.t (T.lst 1 ev28 v28), AV.t (T.int IntKind.i64 v29), AV.t (T.int IntKind.i64 v30),
                            AV.t (T.lst 1 ev38 v38), AV.t (T.int IntKind.i64 v39),
                            AV.t (T.int IntKind.i64 (IntKind.i64.wrap (v40 + (1 : Int))))]
                          [Blk.box [AV.t (T.bool c0_0), AV.t c0_1], Blk.sl false 1 ec1 l]
  else
    gdK none
      (if
          (0 : Int) ≤ IntKind.i64.wrap (v8 + (↑v2_1.length : Int)) ∧
            IntKind.i64.wrap (v8 + (↑v2_1.length : Int)) < (↑c1.length : Int) then
        some ()
      else none)
      fun x =>
      gdK none
        (storeIn (IntKind.i64.wrap (v8 + (↑v2_1.length : Int))).toNat 0 [T.int IntKind.u32 (IntKind.u32.wrap v10)]
          c1)
        fun l =>
        O
          K37n3m1
          [AV.ref (Id.c 0) 0, AV.t (T.ptr [T.bool v1_0, T.lst 1 ev1_1 v1_1]),
            AV.t (T.ptr [T.bool v2_0, T.lst 1 ev2_1 v2_1]), AV.own (Id.c 1),
            AV.t (T.lst 1 ev28 v28), AV.t (T.int IntKind.i64 v29),
            AV.t (T.int IntKind.i64 (IntKind.i64.wrap (v30 + (1 : Int))))]
          [Blk.box [AV.t (T.bool c0_0), AV.t c0_1], Blk.sl false 1 ec1 l]) := by kernel_rfl
theorem e38 (O : Orc) (s : Bool) (y : T) (s2 : Bool) (e2 : Bool) (d2 : List (List T)) (s3 : Bool) (e3 : Bool) (d3 : List (List T)) : stepO PROG ann O (Key.call 38) [AV.ref (Id.c 0) 0, AV.t (T.ptr [T.bool s2, T.lst 1 e2 d2]), AV.t (T.ptr [T.bool s3, T.lst 1 e3 d3])] [Blk.box [AV.t (T.bool s), AV.t y]] =
  (gdK none
    (O (Key.call 52)
      [AV.ref (Id.c 0) 0, AV.t (T.ptr [T.bool s2, T.lst 1 e2 d2]),
        AV.t (T.ptr [T.bool s3, T.lst 1 e3 d3]), AV.ref (Id.c 1) 0]
      [Blk.box [AV.t (T.bool s), AV.t y], Blk.box [AV.t (T.bool false), AV.t (T.emp true)]])
    fun l =>
    gdK none l.head? fun x =>
      gdK none l.tail.head? fun x =>
        gdK none (List.drop 2 l).head? fun x =>
          gdK none x.bool? fun b =>
            gdK none (List.drop 2 l).tail.head? fun x =>
              gdK none (T.lst? 1 x) fun p =>
                gdK none (List.drop 2 (List.drop 2 l)).head? fun x =>
                  gdK none x.bool? fun b_1 =>
                    gdK none (List.drop 2 (List.drop 2 l)).tail.head? fun x =>
                      gdK none (T.lst? 1 x) fun p_1 => some [T.nilp, T.bool b, T.lst 1 p.fst p.snd]) := by kernel_rfl
theorem e52 (O : Orc) (s : Bool) (y : T) (s2 : Bool) (e2 : Bool) (d2 : List (List T)) (s3 : Bool) (e3 : Bool) (d3 : List (List T)) (s4 : Bool) (y4 : T) : stepO PROG ann O (Key.call 52) [AV.ref (Id.c 0) 0, AV.t (T.ptr [T.bool s2, T.lst 1 e2 d2]), AV.t (T.ptr [T.bool s3, T.lst 1 e3 d3]), AV.ref (Id.c 1) 0] [Blk.box [AV.t (T.bool s), AV.t y], Blk.box [AV.t (T.bool s4), AV.t y4]] =
  (gdK none
    (O (Key.call 69) [AV.ref (Id.c 0) 0, AV.t (T.ptr [T.bool s3, T.lst 1 e3 d3])]
      [Blk.box [AV.t (T.bool false), AV.t (T.emp true)]])
    fun l =>
    gdK none l.head? fun x =>
      gdK none (List.drop 1 l).head? fun x =>
        gdK none x.bool? fun b =>
          gdK none (List.drop 1 l).tail.head? fun x =>
            gdK none (T.lst? 1 x) fun p =>
              gdK none
                (O (Key.call 70)
                  [AV.ref (Id.c 0) 0, AV.t (T.ptr [T.bool s2, T.lst 1 e2 d2]),
                    AV.t (T.ptr [T.bool s3, T.lst 1 e3 d3]), AV.ref (Id.c 1) 0]
                  [Blk.box [AV.t (T.bool s), AV.t y], Blk.box [AV.t (T.bool s4), AV.t y4]])
                fun l =>
                gdK none l.head? fun x =>
                  gdK none l.tail.head? fun x =>
                    gdK none (List.drop 2 l).head? fun x =>
                      gdK none x.bool? fun b_1 =>
                        gdK none (List.drop 2 l).tail.head? fun x =>
                          gdK none (T.lst? 1 x) fun p_1 =>
                            gdK none (List.drop 2 (List.drop 2 l)).head? fun x =>
                              gdK none x.bool? fun b_2 =>
                                gdK none (List.drop 2 (List.drop 2 l)).tail.head? fun x =>
                                  gdK none (T.lst? 1 x) fun p_2 =>
                                    bif b_2 then
                                      bif b then
                                        gdK none (O (Key.call 35) [AV.t (T.int IntKind.i64 (1 : Int))] [])
                                          fun l =>
                                          gdK none l.head? fun x =>
                                            gdK none
                                              (O (Key.call 49)
                                                [AV.ref (Id.c 0) 0, AV.ref (Id.c 0) 0,
                                                  AV.t x]
                                                [Blk.box [AV.t (T.bool b_1), AV.t (T.lst 1 p_1.fst p_1.snd)]])
                                              fun l =>
                                              gdK none l.head? fun x =>
                                                gdK none (List.drop 1 l).head? fun x =>
                                                  gdK none x.bool? fun b_3 =>
                                                    gdK none (List.drop 1 l).tail.head? fun x =>
                                                      gdK none (T.lst? 1 x) fun p_3 =>
                                                        gdK none
                                                          (O (Key.call 36)
                                                            [AV.ref (Id.c 0) 0,
                                                              AV.ref (Id.c 0) 0,
                                                              AV.t (T.ptr [T.bool b, T.lst 1 p.fst p.snd])]
                                                            [Blk.box
                                                                [AV.t (T.bool b_2),
                                                                  AV.t (T.lst 1 p_2.fst p_2.snd)]])
                                                          fun l =>
                                                          gdK none l.head? fun x =>
                                                            gdK none (List.drop 1 l).head? fun x =>
                                                              gdK none x.bool? fun b =>
                                                                gdK none (List.drop 1 l).tail.head? fun x =>
                                                                  gdK none (T.lst? 1 x) fun p =>
                                                                    some
                                                                      [T.nilp, T.nilp, T.bool b_3,
                                                                        T.lst 1 p_3.fst p_3.snd, T.bool b,
                                                                        T.lst 1 p.fst p.snd]
                                      else
                                        gdK none (O (Key.call 35) [AV.t (T.int IntKind.i64 (1 : Int))] [])
                                          fun l =>
                                          gdK none l.head? fun x =>
                                            gdK none
                                              (O (Key.call 36)
                                                [AV.ref (Id.c 0) 0, AV.ref (Id.c 0) 0,
                                                  AV.t x]
                                                [Blk.box [AV.t (T.bool b_1), AV.t (T.lst 1 p_1.fst p_1.snd)]])
                                              fun l =>
                                              gdK none l.head? fun x =>
                                                gdK none (List.drop 1 l).head? fun x =>
                                                  gdK none x.bool? fun b_3 =>
                                                    gdK none (List.drop 1 l).tail.head? fun x =>
                                                      gdK none (T.lst? 1 x) fun p_3 =>
                                                        gdK none
                                                          (O (Key.call 49)
                                                            [AV.ref (Id.c 0) 0,
                                                              AV.ref (Id.c 0) 0,
                                                              AV.t (T.ptr [T.bool b, T.lst 1 p.fst p.snd])]
                                                            [Blk.box
                                                                [AV.t (T.bool b_2),
                                                                  AV.t (T.lst 1 p_2.fst p_2.snd)]])
                                                          fun l =>
                                                          gdK none l.head? fun x =>
                                                            gdK none (List.drop 1 l).head? fun x =>
                                                              gdK none x.bool? fun b =>
                                                                gdK none (List.drop 1 l).tail.head? fun x =>
                                                                  gdK none (T.lst? 1 x) fun p =>
                                                                    some
                                                                      [T.nilp, T.nilp, T.bool b_3,
                                                                        T.lst 1 p_3.fst p_3.snd, T.bool b,
                                                                        T.lst 1 p.fst p.snd]
                                    else
                                      some
                                        [T.nilp, T.nilp, T.bool b_1, T.lst 1 p_1.fst p_1.snd, T.bool b_2,
                                          T.lst 1 p_2.fst p_2.snd]) := by kernel_rfl
theorem e70 (O : Orc) (s : Bool) (y : T) (s2 : Bool) (e2 : Bool) (d2 : List (List T)) (s3 : Bool) (e3 : Bool) (d3 : List (List T)) (s4 : Bool) (y4 : T) : stepO PROG ann O (Key.call 70) [AV.ref (Id.c 0) 0, AV.t (T.ptr [T.bool s2, T.lst 1 e2 d2]), AV.t (T.ptr [T.bool s3, T.lst 1 e3 d3]), AV.ref (Id.c 1) 0] [Blk.box [AV.t (T.bool s), AV.t y], Blk.box [AV.t (T.bool s4), AV.t y4]] =
  (gdK none
    (O (Key.call 67)
      [AV.t (T.ptr [T.bool s2, T.lst 1 e2 d2]), AV.t (T.ptr [T.bool s3, T.lst 1 e3 d3])] [])
    fun l =>
    gdK none l.head? fun x =>
      gdK none (T.int? IntKind.i64 x) fun n =>
        bif decide (n < (0 : Int)) then
          gdK none
            (O (Key.call 69) [AV.ref (Id.c 0) 0, AV.t (T.ptr [T.bool s2, T.lst 1 e2 d2])]
              [Blk.box [AV.t (T.bool s4), AV.t y4]])
            fun l =>
            gdK none l.head? fun x =>
              gdK none (List.drop 1 l).head? fun x =>
                gdK none x.bool? fun b =>
                  gdK none (List.drop 1 l).tail.head? fun x =>
                    gdK none (T.lst? 1 x) fun p =>
                      gdK none
                        (O (Key.call 48) [AV.ref (Id.c 0) 0, AV.t (T.int IntKind.i64 (0 : Int))]
                          [Blk.box [AV.t (T.bool s), AV.t y]])
                        fun l =>
                        gdK none l.head? fun x =>
                          gdK none (List.drop 1 l).head? fun x =>
                            gdK none x.bool? fun b_1 =>
                              gdK none (List.drop 1 l).tail.head? fun x =>
                                gdK none (T.lst? 1 x) fun p_1 =>
                                  some
                                    [T.nilp, T.nilp, T.bool b_1, T.lst 1 p_1.fst p_1.snd, T.bool b,
                                      T.lst 1 p.fst p.snd]
        else
          bif decide ((↑d2.length : Int) < (3 : Int)) then
            gdK none (O (Key.call 53) [AV.t (T.ptr [T.bool s2, T.lst 1 e2 d2])] []) fun l =>
              gdK none l.head? fun x =>
                gdK none (T.int? IntKind.u64 x) fun n =>
                  gdK none (O (Key.call 53) [AV.t (T.ptr [T.bool s3, T.lst 1 e3 d3])] []) fun l =>
                    gdK none l.head? fun x =>
                      gdK none (T.int? IntKind.u64 x) fun n_1 =>
                        gdK none (if n_1 = (0 : Int) then none else some ()) fun x =>
                          gdK none
                            (O (Key.call 65)
                              [AV.ref (Id.c 0) 0,
                                AV.t (T.int IntKind.u64 (IntKind.u64.wrap (n.tdiv n_1)))]
                              [Blk.box [AV.t (T.bool s), AV.t y]])
                            fun l =>
                            gdK none l.head? fun x =>
                              gdK none (List.drop 1 l).head? fun x =>
                                gdK none x.bool? fun b =>
                                  gdK none (List.drop 1 l).tail.head? fun x =>
                                    gdK none (T.lst? 1 x) fun p =>
                                      gdK none (if n_1 = (0 : Int) then none else some ()) fun x =>
                                        gdK none
                                          (O (Key.call 65)
                                            [AV.ref (Id.c 0) 0, AV.t (T.int IntKind.u64 (n.tmod n_1))]
                                            [Blk.box [AV.t (T.bool s4), AV.t y4]])
                                          fun l =>
                                          gdK none l.head? fun x =>
                                            gdK none (List.drop 1 l).head? fun x =>
                                              gdK none x.bool? fun b =>
                                                gdK none (List.drop 1 l).tail.head? fun x =>
                                                  gdK none (T.lst? 1 x) fun p_1 =>
                                                    gdK none
                                                      (O (Key.call 51) [AV.ref (Id.c 0) 0]
                                                        [Blk.box
                                                            [AV.t (T.bool !s2 == s3),
                                                              AV.t (T.lst 1 p.fst p.snd)]])
                                                      fun l =>
                                                      gdK none l.head? fun x =>
                                                        gdK none (List.drop 1 l).head? fun x =>
                                                          gdK none x.bool? fun b =>
                                                            gdK none (List.drop 1 l).tail.head? fun x =>
                                                              gdK none (T.lst? 1 x) fun p =>
                                                                gdK none
                                                                  (O (Key.call 51)
                                                                    [AV.ref (Id.c 0) 0]
                                                                    [Blk.box
                                                                        [AV.t (T.bool s2),
                                                                          AV.t (T.lst 1 p_1.fst p_1.snd)]])
                                                                  fun l =>
                                                                  gdK none l.head? fun x =>
                                                                    gdK none (List.drop 1 l).head? fun x =>
                                                                      gdK none x.bool? fun b_1 =>
                                                                        gdK none (List.drop 1 l).tail.head?
                                                                          fun x =>
                                                                          gdK none (T.lst? 1 x) fun p_2 =>
                                                                            some
                                                                              [T.nilp, T.nilp, T.bool b,
                                                                                T.lst 1 p.fst p.snd, T.bool b_1,
                                                                                T.lst 1 p_2.fst p_2.snd]
          else
            gdK none (O (Key.call 78) [AV.t (T.lst 1 e2 d2), AV.t (T.lst 1 e3 d3)] []) fun l =>
              gdK none l.head? fun x =>
                gdK none (T.lst? 1 x) fun p =>
                  gdK none l.tail.head? fun x => gdK none (T.lst? 1 x) fun p => none) := by kernel_rfl
theorem e66 (O : Orc) (ex : Bool) (x : List (List T)) (ey : Bool) (y : List (List T)) : stepO PROG ann O (Key.call 66) [AV.t (T.lst 1 ex x), AV.t (T.lst 1 ey y)] [] =
  (bif decide ((↑x.length : Int) < (↑y.length : Int)) then
    gdK none (mkOk (IntKind.i64.wrap ((↑y.length : Int) + (1 : Int))) (IntKind.i64.wrap ((↑y.length : Int) + (1 : Int))))
      fun x_1 =>
      O
        K66n6
        [AV.t (T.lst 1 ey y), AV.t (T.lst 1 ex x), AV.own (Id.c 0),
          AV.t (T.int IntKind.u64 (0 : Int)), AV.t (T.lst 1 ey y), AV.t (T.int IntKind.i64 (↑y.length : Int)),
          AV.t (T.int IntKind.i64 (0 : Int))]
        [Blk.sl false 1 false
            (List.replicate (IntKind.i64.wrap ((↑y.length : Int) + (1 : Int))).toNat [T.int IntKind.u32 (0 : Int)])]
  else
    gdK none (mkOk (IntKind.i64.wrap ((↑x.length : Int) + (1 : Int))) (IntKind.i64.wrap ((↑x.length : Int) + (1 : Int))))
      fun x_1 =>
      O
        K66n6
        [AV.t (T.lst 1 ex x), AV.t (T.lst 1 ey y), AV.own (Id.c 0),
          AV.t (T.int IntKind.u64 (0 : Int)), AV.t (T.lst 1 ex x), AV.t (T.int IntKind.i64 (↑x.length : Int)),
          AV.t (T.int IntKind.i64 (0 : Int))]
        [Blk.sl false 1 false
            (List.replicate (IntKind.i64.wrap ((↑x.length : Int) + (1 : Int))).toNat [T.int IntKind.u32 (0 : Int)])]) := by kernel_rfl
theorem e66n6 (O : Orc) (ev0 : Bool) (v0 : List (List T)) (ev1 : Bool) (v1 : List (List T)) (v6 : Int) (ev20 : Bool) (v20 : List (List T)) (v21 : Int) (v22 : Int) (ec0 : Bool) (c0 : List (List T)) : stepO PROG ann O K66n6 [(AV.t (T.lst 1 ev0 v0)), (AV.t (T.lst 1 ev1 v1)), (AV.own (Id.c 0)), (AV.t (T.int IntKind.u64 v6)), (AV.t (T.lst 1 ev20 v20)), (AV.t (T.int IntKind.i64 v21)), (AV.t (T.int IntKind.i64 v22))] [(Blk.sl false 1 ec0 c0)] =
  (bif decide (v22 < v21) then
    gdK none (if (0 : Int) ≤ v22 ∧ v22 < (↑v20.length : Int) then some () else none) fun x =>
      gdK none v20[v22.toNat]? fun l =>
        gdK none l.head? fun x =>
          gdK none (T.int? IntKind.u32 x) fun n =>
            bif decide (v22 < (↑v1.length : Int)) then
              gdK none (if (0 : Int) ≤ v22 ∧ v22 < (↑v1.length : Int) then some () else none) fun x =>
                gdK none v1[v22.toNat]? fun l =>
                  gdK none l.head? fun x =>
                    gdK none (T.int? IntKind.u32 x) fun n_1 =>
                      gdK none (if (0 : Int) ≤ v22 ∧ v22 < (↑c0.length : Int) then some () else none) fun x =>
                        gdK none
                          (storeIn v22.toNat 0
                            [T.int IntKind.u32
                                (IntKind.u32.wrap
                                  (IntKind.u64.wrap (IntKind.u64.wrap (v6 + IntKind.u64.wrap n) + IntKind.u64.wrap n_1)))]
                            c0)
                          fun l =>
                          O
                            K66n6
                            [AV.t (T.lst 1 ev0 v0), AV.t (T.lst 1 ev1 v1), AV.own (Id.c 0),
                              AV.t
                                (T.int IntKind.u64
                                  ((IntKind.u64.wrap
                                        (IntKind.u64.wrap (v6 + IntKind.u64.wrap n) + IntKind.u64.wrap n_1)).fdiv
                                    ((2 : Int) ^ 32))),
                              AV.t (T.lst 1 ev20 v20), AV.t (T.int IntKind.i64 v21),
                              AV.t (T.int IntKind.i64 (IntKind.i64.wrap (v22 + (1 : Int))))]
                            [Blk.sl false 1 ec0 l]
            else
              gdK none (if (0 : Int) ≤ v22 ∧ v22 < (↑c0.length : Int) then some () else none) fun x =>
                gdK none
                  (storeIn v22.toNat 0
                    [T.int IntKind.u32 (IntKind.u32.wrap (IntKind.u64.wrap (v6 + IntKind.u64.wrap n)))] c0)
                  fun l =>
                  O
                    K66n6
                    [AV.t (T.lst 1 ev0 v0), AV.t (T.lst 1 ev1 v1), AV.own (Id.c 0),
                      AV.t
                        (T.int IntKind.u64 ((IntKind.u64.wrap (v6 + IntKind.u64.wrap n)).fdiv ((2 : Int) ^ 32))),
                      AV.t (T.lst 1 ev20 v20), AV.t (T.int IntKind.i64 v21),
                      AV.t (T.int IntKind.i64 (IntKind.i64.wrap (v22 + (1 : Int))))]
                    [Blk.sl false 1 ec0 l]
  else
    gdK none (if (0 : Int) ≤ (↑v0.length : Int) ∧ (↑v0.length : Int) < (↑c0.length : Int) then some () else none) fun x =>
      gdK none (storeIn (↑v0.length : Int).toNat 0 [T.int IntKind.u32 (IntKind.u32.wrap v6)] c0) fun l =>
        some [T.lst 1 ec0 l]) := by kernel_rfl
theorem e68 (O : Orc) (ex : Bool) (x : List (List T)) (ey : Bool) (y : List (List T)) : stepO PROG ann O (Key.call 68) [AV.t (T.lst 1 ex x), AV.t (T.lst 1 ey y)] [] =
  (gdK none (mkOk (↑x.length : Int) (↑x.length : Int)) fun x_1 =>
    O
      K68n4
      [AV.t (T.lst 1 ey y), AV.own (Id.c 0), AV.t (T.int IntKind.u64 (0 : Int)),
        AV.t (T.lst 1 ex x), AV.t (T.int IntKind.i64 (↑x.length : Int)), AV.t (T.int IntKind.i64 (0 : Int))]
      [Blk.sl false 1 false (List.replicate (↑x.length : Int).toNat [T.int IntKind.u32 (0 : Int)])]) := by kernel_rfl
theorem e68n4 (O : Orc) (ev1 : Bool) (v1 : List (List T)) (v6 : Int) (ev13 : Bool) (v13 : List (List T)) (v14 : Int) (v15 : Int) (ec0 : Bool) (c0 : List (List T)) : stepO PROG ann O K68n4 [(AV.t (T.lst 1 ev1 v1)), (AV.own (Id.c 0)), (AV.t (T.int IntKind.u64 v6)), (AV.t (T.lst 1 ev13 v13)), (AV.t (T.int IntKind.i64 v14)), (AV.t (T.int IntKind.i64 v15))] [(Blk.sl false 1 ec0 c0)] =
  (bif decide (v15 < v14) then
    gdK none (if (0 : Int) ≤ v15 ∧ v15 < (↑v13.length : Int) then some () else none) fun x =>
      gdK none v13[v15.toNat]? fun l =>
        gdK none l.head? fun x =>
          gdK none (T.int? IntKind.u32 x) fun n =>
            bif decide (v15 < (↑v1.length : Int)) then
              gdK none (if (0 : Int) ≤ v15 ∧ v15 < (↑v1.length : Int) then some () else none) fun x =>
                gdK none v1[v15.toNat]? fun l =>
                  gdK none l.head? fun x =>
                    gdK none (T.int? IntKind.u32 x) fun n_1 =>
                      gdK none (if (0 : Int) ≤ v15 ∧ v15 < (↑c0.length : Int) then some () else none) fun x =>
                        gdK none
                          (storeIn v15.toNat 0
                            [T.int IntKind.u32
                                (IntKind.u32.wrap
                                  (IntKind.u64.wrap (IntKind.u64.wrap (IntKind.u64.wrap n - v6) - IntKind.u64.wrap n_1)))]
                            c0)
                          fun l =>
                          O
                            K68n4
                            [AV.t (T.lst 1 ev1 v1), AV.own (Id.c 0),
                              AV.t
                                (T.int IntKind.u64
                                  ((IntKind.u64.wrap
                                        (IntKind.u64.wrap (IntKind.u64.wrap n - v6) - IntKind.u64.wrap n_1)).fdiv
                                    ((2 : Int) ^ 63))),
                              AV.t (T.lst 1 ev13 v13), AV.t (T.int IntKind.i64 v14),
                              AV.t (T.int IntKind.i64 (IntKind.i64.wrap (v15 + (1 : Int))))]
                            [Blk.sl false 1 ec0 l]
            else
              gdK none (if (0 : Int) ≤ v15 ∧ v15 < (↑c0.length : Int) then some () else none) fun x =>
                gdK none
                  (storeIn v15.toNat 0
                    [T.int IntKind.u32 (IntKind.u32.wrap (IntKind.u64.wrap (IntKind.u64.wrap n - v6)))] c0)
                  fun l =>
                  O
                    K68n4
                    [AV.t (T.lst 1 ev1 v1), AV.own (Id.c 0),
                      AV.t
                        (T.int IntKind.u64 ((IntKind.u64.wrap (IntKind.u64.wrap n - v6)).fdiv ((2 : Int) ^ 63))),
                      AV.t (T.lst 1 ev13 v13), AV.t (T.int IntKind.i64 v14),
                      AV.t (T.int IntKind.i64 (IntKind.i64.wrap (v15 + (1 : Int))))]
                    [Blk.sl false 1 ec0 l]
  else some [T.lst 1 ec0 c0]) := by kernel_rfl
theorem e67 (O : Orc) (s2 : Bool) (e2 : Bool) (d2 : List (List T)) (s3 : Bool) (e3 : Bool) (d3 : List (List T)) : stepO PROG ann O (Key.call 67) [AV.t (T.ptr [T.bool s2, T.lst 1 e2 d2]), AV.t (T.ptr [T.bool s3, T.lst 1 e3 d3])] [] =
  (bif !(↑d2.length : Int) == (↑d3.length : Int) then
    bif decide ((↑d2.length : Int) < (↑d3.length : Int)) then some [T.int IntKind.i64 (-1 : Int)]
    else some [T.int IntKind.i64 (1 : Int)]
  else
    O
      K67n6
      [AV.t (T.ptr [T.bool s2, T.lst 1 e2 d2]), AV.t (T.ptr [T.bool s3, T.lst 1 e3 d3]),
        AV.t (T.int IntKind.i64 (IntKind.i64.wrap ((↑d2.length : Int) - (1 : Int))))]
      []) := by kernel_rfl
theorem e67n6 (O : Orc) (v0_0 : Bool) (ev0_1 : Bool) (v0_1 : List (List T)) (v1_0 : Bool) (ev1_1 : Bool) (v1_1 : List (List T)) (v5 : Int) : stepO PROG ann O K67n6 [(AV.t (T.ptr [(T.bool v0_0), (T.lst 1 ev0_1 v0_1)])), (AV.t (T.ptr [(T.bool v1_0), (T.lst 1 ev1_1 v1_1)])), (AV.t (T.int IntKind.i64 v5))] [] =
  (bif decide (v5 ≥ (0 : Int)) then
    gdK none (if (0 : Int) ≤ v5 ∧ v5 < (↑v0_1.length : Int) then some () else none) fun x =>
      gdK none v0_1[v5.toNat]? fun l =>
        gdK none l.head? fun x =>
          gdK none (T.int? IntKind.u32 x) fun n =>
            gdK none (if (0 : Int) ≤ v5 ∧ v5 < (↑v1_1.length : Int) then some () else none) fun x =>
              gdK none v1_1[v5.toNat]? fun l =>
                gdK none l.head? fun x =>
                  gdK none (T.int? IntKind.u32 x) fun n_1 =>
                    bif !n == n_1 then
                      gdK none (if (0 : Int) ≤ v5 ∧ v5 < (↑v0_1.length : Int) then some () else none) fun x =>
                        gdK none v0_1[v5.toNat]? fun l =>
                          gdK none l.head? fun x =>
                            gdK none (T.int? IntKind.u32 x) fun n =>
                              gdK none (if (0 : Int) ≤ v5 ∧ v5 < (↑v1_1.length : Int) then some () else none) fun x =>
                                gdK none v1_1[v5.toNat]? fun l =>
                                  gdK none l.head? fun x =>
                                    gdK none (T.int? IntKind.u32 x) fun n_2 =>
                                      bif decide (n < n_2) then some [T.int IntKind.i64 (-1 : Int)]
                                      else some [T.int IntKind.i64 (1 : Int)]
                    else
                      O
                        K67n6
                        [AV.t (T.ptr [T.bool v0_0, T.lst 1 ev0_1 v0_1]),
                          AV.t (T.ptr [T.bool v1_0, T.lst 1 ev1_1 v1_1]),
                          AV.t (T.int IntKind.i64 (IntKind.i64.wrap (v5 - (1 : Int))))]
                        []
  else some [T.int IntKind.i64 (0 : Int)]) := by kernel_rfl
theorem e39 (O : Orc) (s2 : Bool) (e2 : Bool) (d2 : List (List T)) : stepO PROG ann O (Key.call 39) [AV.t (T.ptr [T.bool s2, T.lst 1 e2 d2])] [] =
  (bif s2 then
    gdK none (O (Key.call 53) [AV.t (T.ptr [T.bool s2, T.lst 1 e2 d2])] []) fun l =>
      gdK none l.head? fun x =>
        gdK none (T.int? IntKind.u64 x) fun n =>
          some [T.int IntKind.i64 (IntKind.i64.wrap ((0 : Int) - IntKind.i64.wrap n))]
  else
    gdK none (O (Key.call 53) [AV.t (T.ptr [T.bool s2, T.lst 1 e2 d2])] []) fun l =>
      gdK none l.head? fun x => gdK none (T.int? IntKind.u64 x) fun n => some [T.int IntKind.i64 (IntKind.i64.wrap n)]) := by kernel_rfl
theorem e53 (O : Orc) (a0_0 : Bool) (ea0_1 : Bool) (a0_1 : List (List T)) : stepO PROG ann O (Key.call 53) [(AV.t (T.ptr [(T.bool a0_0), (T.lst 1 ea0_1 a0_1)]))] [] =
  (O
    K53n3
    [AV.t (T.ptr [T.bool a0_0, T.lst 1 ea0_1 a0_1]), AV.t (T.int IntKind.u64 (0 : Int)),
      AV.t (T.int IntKind.i64 (IntKind.i64.wrap (mm false (↑a0_1.length : Int) (2 : Int) - (1 : Int))))]
    []) := by kernel_rfl
theorem e53n3 (O : Orc) (v0_0 : Bool) (ev0_1 : Bool) (v0_1 : List (List T)) (v3 : Int) (v4 : Int) : stepO PROG ann O K53n3 [(AV.t (T.ptr [(T.bool v0_0), (T.lst 1 ev0_1 v0_1)])), (AV.t (T.int IntKind.u64 v3)), (AV.t (T.int IntKind.i64 v4))] [] =
  (bif decide (v4 ≥ (0 : Int)) then
    gdK none (if (0 : Int) ≤ v4 ∧ v4 < (↑v0_1.length : Int) then some () else none) fun x =>
      gdK none v0_1[v4.toNat]? fun l =>
        gdK none l.head? fun x =>
          gdK none (T.int? IntKind.u32 x) fun n =>
            O
              K53n3
              [AV.t (T.ptr [T.bool v0_0, T.lst 1 ev0_1 v0_1]),
                AV.t
                  (T.int IntKind.u64
                    (IntKind.u64.wrap
                      (↑(BitVec.ofInt 64 (IntKind.u64.wrap (v3 * (2 : Int) ^ 32)) |||
                              BitVec.ofInt 64 (IntKind.u64.wrap n)).toNat :
                        Int))),
                AV.t (T.int IntKind.i64 (IntKind.i64.wrap (v4 - (1 : Int))))]
              []
  else some [T.int IntKind.u64 v3]) := by kernel_rfl
end Go.Aev.Gen
