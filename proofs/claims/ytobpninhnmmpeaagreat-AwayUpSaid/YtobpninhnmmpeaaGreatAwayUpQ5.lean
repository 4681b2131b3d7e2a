import Derived.Test.YtobpninhnmmpeaaGreatAwayUpQ4
import Derived.Test.YtobpninhnmmpeaaGreatChecked
import Derived.KernelRfl
set_option linter.unusedSimpArgs false
set_option linter.unusedVariables false
namespace Go.Aev.Gen
open Go Go.Aev
noncomputable abbrev PROG := Go.Proofs.Tryz.prog
def ann : Ann := {
  live := (fun f r => match f, r with
    | 3, 11 => some [(0, none), (1, none), (2, none), (3, none), (9, none), (10, none), (13, none), (14, none)]
    | 6, 7 => some [(0, none), (1, none), (2, none), (3, none), (8, none), (9, none), (38, none), (39, none), (40, none)]
    | 7, 6 => some [(0, none), (1, none), (4, none), (5, none)]
    | 12, 6 => some [(0, none), (1, none), (2, none), (7, none), (9, some 3), (30, none), (31, none), (32, none)]
    | 12, 14 => some [(2, none), (7, none), (9, some 3), (15, none), (66, none), (67, none), (68, none)]
    | 12, 17 => some [(2, none), (7, none), (9, some 3), (15, none), (17, none), (66, none), (67, none), (68, none), (72, none), (73, none), (74, none)]
    | 13, 2 => some [(0, none), (3, none)]
    | 14, 2 => some [(0, none), (1, none), (5, none)]
    | 17, 4 => some [(1, none), (5, none), (8, some 1000004), (9, some 1000004), (10, none), (15, none), (16, none), (17, none)]
    | 18, 4 => some [(1, none), (2, none), (3, none), (8, none), (10, none), (11, none), (16, none), (17, none), (18, none)]
    | 25, 8 => some [(2, none), (4, none), (5, none)]
    | 26, 2 => some [(0, none), (11, some 0), (12, some 0)]
    | 26, 5 => some [(0, none), (13, none), (14, none)]
    | 29, 4 => some [(0, none), (1, none), (2, none), (3, none), (10, some 3), (11, some 1), (12, none)]
    | 30, 5 => some [(0, none), (1, none), (2, none), (3, none), (11, none), (12, none)]
    | 30, 12 => some [(0, none), (1, none), (2, none), (11, none), (14, none), (15, none)]
    | 37, 4 => some [(0, none), (1, none), (5, none)]
    | 38, 9 => some [(1, none), (2, none), (3, none), (5, none), (6, none), (32, none), (33, none), (34, none)]
    | 38, 14 => some [(1, none), (2, none), (3, none), (5, none), (6, none), (43, none), (44, none)]
    | 39, 6 => some [(3, none), (4, none), (6, none), (8, none), (9, none), (11, none), (38, none), (39, none)]
    | 40, 3 => some [(1, none), (4, none), (5, none), (6, none)]
    | 42, 6 => some [(1, none), (4, none), (21, none), (22, none), (23, none)]
    | 43, 1 => some [(0, none), (1, none)]
    | 47, 3 => some [(3, some 1), (6, none), (7, none), (8, none)]
    | 48, 3 => some [(1, none), (2, none), (3, none), (6, none), (7, none), (14, none), (15, none), (16, none)]
    | 56, 6 => some [(1, none), (5, none), (13, none), (14, none), (15, none)]
    | 60, 3 => some [(0, none), (3, none), (4, none)]
    | 65, 6 => some [(0, none), (1, none), (5, none)]
    | 67, 5 => some [(1, none), (2, none), (3, none), (6, none), (7, some 1000001), (8, none)]
    | 68, 3 => some [(1, none), (2, none), (3, none), (7, some 0), (8, none)]
    | 72, 3 => some [(0, none), (1, none), (2, none), (7, none), (28, none), (29, none), (30, none)]
    | 72, 7 => some [(0, none), (1, none), (2, none), (7, none), (8, none), (9, none), (10, none), (28, none), (29, none), (30, none), (38, none), (39, none), (40, none)]
    | 78, 8 => some [(4, none), (43, none), (44, none), (45, none)]
    | 79, 1 => some [(0, none)]
    | 81, 1 => some [(0, none), (1, none)]
    | 82, 4 => some [(1, none), (2, none), (21, none), (22, none)]
    | 83, 1 => some [(0, none), (1, none)]
    | 84, 4 => some [(0, none), (1, none), (6, none), (8, none)]
    | 84, 12 => some [(0, none), (1, none), (6, none), (8, none), (11, none), (53, none), (54, none), (55, none)]
    | 84, 19 => some [(1, none), (6, none), (8, some 1000001), (11, none), (14, none), (15, none), (68, none), (69, none), (70, none)]
    | 85, 3 => some [(0, none), (1, none), (5, some 0), (6, none)]
    | 90, 4 => some [(0, none), (1, none), (4, none), (5, none), (14, none), (15, none), (16, none)]
    | 92, 2 => some [(4, none), (5, none), (6, none)]
    | 96, 6 => some [(0, none), (1, none), (5, none)]
    | 97, 3 => some [(1, none), (3, none), (12, none), (13, none)]
    | 98, 2 => some [(0, none), (3, none)]
    | 105, 6 => some [(0, none), (1, none), (5, none), (6, none), (20, none), (21, none), (22, none)]
    | 106, 4 => some [(1, none), (5, none), (6, none), (13, none), (14, none), (15, none)]
    | 107, 4 => some [(0, none), (1, none), (5, none)]
    | 109, 2 => some [(0, none), (1, none), (7, none), (8, none)]
    | 112, 1 => some [(0, none)]
    | 113, 10 => some [(0, none), (8, none), (9, none), (10, some 1)]
    | 113, 15 => some [(8, none), (9, none), (10, some 1), (11, none), (12, none), (13, none)]
    | 113, 19 => some [(8, none), (9, none), (10, some 1), (11, none), (12, none), (13, none), (15, none), (16, none)]
    | 113, 27 => some [(8, none), (9, none), (10, some 1), (11, none), (12, none), (13, none), (15, none), (17, none), (167, none), (168, none), (169, none)]
    | 118, 3 => some [(1, none), (5, none), (17, none), (18, none), (19, none)]
    | 118, 7 => some [(1, none), (5, none), (6, none), (7, none), (8, none), (17, none), (18, none), (19, none), (24, none), (25, none), (26, none)]
    | 122, 4 => some [(0, none), (1, none), (6, none), (7, none), (8, none)]
    | 124, 4 => some [(1, none), (5, none), (6, none), (18, none), (19, none), (20, none)]
    | 125, 3 => some [(0, none), (1, none), (2, none), (7, none), (8, none), (12, none), (13, none)]
    | 126, 4 => some [(0, none), (1, none), (6, none), (7, none), (20, none), (21, none), (22, none)]
    | 126, 15 => some [(0, none), (1, none), (6, none), (10, none), (58, none), (59, none), (60, none)]
    | 127, 6 => some [(1, none), (5, none), (6, none), (20, none), (21, none), (22, none)]
    | 128, 4 => some [(1, none), (5, none), (6, none), (13, none), (14, none), (15, none)]
    | 130, 4 => some [(0, none), (1, none), (6, none), (7, none), (8, none)]
    | 130, 11 => some [(0, none), (1, none), (9, none)]
    | 130, 17 => some [(9, none), (10, none), (11, some 0), (12, none), (13, none), (14, none)]
    | 130, 21 => some [(9, none), (10, none), (11, some 0), (12, none), (13, none), (14, none), (16, none), (17, none)]
    | 130, 27 => some [(9, none), (10, none), (11, some 0), (12, none), (13, none), (14, none), (16, none), (18, none), (19, none), (172, none), (173, none), (174, none)]
    | 130, 41 => some [(9, none), (10, none), (11, some 0), (12, none), (13, none), (14, none), (16, none), (18, none), (233, none), (234, none), (235, none)]
    | 131, 3 => some [(1, none), (5, none), (16, none), (17, none), (18, none)]
    | 132, 6 => some [(0, none), (1, none), (5, none), (20, none), (21, none), (22, none)]
    | _, _ => none),
  join := (fun _ _ => none),
  sig := (fun f => match f with
    | 124 => some ⟨[.own 1], []⟩
    | 105 => some ⟨[.own 1], []⟩
    | 106 => some ⟨[.own 1], []⟩
    | 131 => some ⟨[.own 1], []⟩
    | 132 => some ⟨[.own 1], []⟩
    | 130 => some ⟨[.own 1, .own 1], []⟩
    | 86 => some ⟨[.own 1], []⟩
    | 46 => some ⟨[.own 1], []⟩
    | 47 => some ⟨[.own 1], []⟩
    | 79 => some ⟨[.own 1], []⟩
    | _ => none),
  bref := (fun f => match f with
    | 101 => some [true]
    | 121 => some [true]
    | 125 => some [true, false, false]
    | 120 => some [true]
    | 72 => some [true]
    | 64 => some [true]
    | 75 => some [true]
    | 103 => some [true]
    | 98 => some [true]
    | 61 => some [true]
    | 63 => some [true]
    | 58 => some [true]
    | 62 => some [true]
    | 102 => some [true]
    | 26 => some [true]
    | 36 => some [true]
    | 34 => some [true]
    | 33 => some [true]
    | 69 => some [true]
    | 71 => some [true]
    | 99 => some [true, false, false, true]
    | 119 => some [true, false, false, true]
    | 45 => some [false, true, true, true]
    | 82 => some [true]
    | _ => none),
  deep := (fun _ => false),
  app := (fun d => match d with
    | some 11 => true
    | some 16 => true
    | _ => false),
  bsig := (fun f m => match f with
    | 101 => ⟨[.ref 0 0], [.box [.f .b, .t (.l 1), .f .b, .t (.l 1)]]⟩
    | 121 => ⟨[.ref 0 0], [.box [.f .b, .t (.l 1), .f .b, .t (.l 1)]]⟩
    | 125 => ⟨[.f .b], [.sl 1]⟩
    | 120 => ⟨[.ref 0 0], [.box [.f .b, .t (.l 1)]]⟩
    | 72 => ⟨[.ref 0 0], [.box [.f .b, .t (.l 1)]]⟩
    | 64 => ⟨[.ref 0 0], [.box [.f .b, .t (.l 1)]]⟩
    | 75 => ⟨[.ref 0 0], [.box [.f .b, .t (.l 1)]]⟩
    | 103 => ⟨[.ref 0 0], [.box [.f .b, .t (.l 1)]]⟩
    | 98 => if m = 2 then ⟨[.ref 0 0], [.box [.f .b, .t (.l 1)]]⟩ else ⟨[.ref 0 0], [.box [.f .b, .t (.l 1)], .dead]⟩
    | 61 => ⟨[.ref 0 0], [.box [.f .b, .t (.l 1)]]⟩
    | 63 => if m = 4 then ⟨[.no], [.box [.f .b, .t (.l 1), .f .b, .t (.l 1)]]⟩ else ⟨[.ref 0 0], [.box [.f .b, .t (.l 1)]]⟩
    | 58 => ⟨[.ref 0 0], [.box [.f .b, .t (.l 1)]]⟩
    | 62 => ⟨[.ref 0 0], [.box [.f .b, .t (.l 1)]]⟩
    | 102 => ⟨[.ref 0 0], [.box [.f .b, .t (.l 1)]]⟩
    | 36 => ⟨[.ref 0 0], [.box [.f .b, .t (.l 1), .f .b, .t (.l 1)]]⟩
    | 34 => ⟨[.ref 0 0], [.box [.f .b, .t (.l 1), .f .b, .t (.l 1)]]⟩
    | 33 => ⟨[.ref 0 0], [.box [.f .b, .t (.l 1), .f .b, .t (.l 1)]]⟩
    | 69 => ⟨[.ref 0 0], [.box [.f .b, .t (.l 1), .f .b, .t (.l 1)]]⟩
    | 71 => ⟨[.ref 0 0], [.box [.f .b, .t (.l 1), .f .b, .t (.l 1)]]⟩
    | 26 => ⟨[.ref 0 0], [.box [.f .b, .t (.l 1)]]⟩
    | 99 => ⟨[.ref 0 0, .ref 1 0], [.box [.f .b, .t (.l 1)], .box [.f .b, .t (.l 1)]]⟩
    | 119 => ⟨[.ref 0 0, .ref 1 0], [.box [.f .b, .t (.l 1)], .box [.f .b, .t (.l 1)]]⟩
    | 45 => ⟨[], [.box [.f (.i .i64)], .box [.own 4], .box [.own 4], .dead, .dead]⟩
    | 82 => ⟨[.agg [.own 1, .f (.i .i64), .f (.i .i64)]], [.dead]⟩
    | _ => ⟨[], []⟩),
  wr := (fun _ => false),
  st := (fun d => match d with
    | some 50 => true
    | some 30 => true
    | some 37 => true
    | _ => false) }
theorem hm : PROG.follows .mixedOrders = true := by kernel_rfl
noncomputable abbrev K6n6 : Key := nodeKey PROG 12 true 6 [(0, none), (1, none), (2, none), (7, none), (9, some 3), (30, none), (31, none), (32, none)] (0, 0)
noncomputable abbrev Kq14n2 : Key := nodeKey PROG 14 true 2 [(0, none), (1, none), (5, none)] (0, 0)
noncomputable abbrev K6n14 : Key := nodeKey PROG 12 true 14 [(2, none), (7, none), (9, some 3), (15, none), (66, none), (67, none), (68, none)] (0, 0)
noncomputable abbrev K25n6 : Key := nodeKey PROG 42 true 6 [(1, none), (4, none), (21, none), (22, none), (23, none)] (0, 0)
noncomputable abbrev K16n9 : Key := nodeKey PROG 38 true 9 [(1, none), (2, none), (3, none), (5, none), (6, none), (32, none), (33, none), (34, none)] (0, 0)
noncomputable abbrev K17n4 : Key := nodeKey PROG 17 true 4 [(1, none), (5, none), (8, some 1000004), (9, some 1000004), (10, none), (15, none), (16, none), (17, none)] (0, 0)
noncomputable abbrev K6n17 : Key := nodeKey PROG 12 true 17 [(2, none), (7, none), (9, some 3), (15, none), (17, none), (66, none), (67, none), (68, none), (72, none), (73, none), (74, none)] (0, 0)
noncomputable abbrev Kq40n3 : Key := nodeKey PROG 40 true 3 [(1, none), (4, none), (5, none), (6, none)] (0, 0)
noncomputable abbrev K33n8 : Key := nodeKey PROG 78 true 8 [(4, none), (43, none), (44, none), (45, none)] (0, 0)
noncomputable abbrev K34n1 : Key := nodeKey PROG 79 true 1 [(0, none)] (0, 0)
noncomputable abbrev K36n1 : Key := nodeKey PROG 81 true 1 [(0, none), (1, none)] (0, 0)
noncomputable abbrev K16n14 : Key := nodeKey PROG 38 true 14 [(1, none), (2, none), (3, none), (5, none), (6, none), (43, none), (44, none)] (0, 0)
noncomputable abbrev K19n8 : Key := nodeKey PROG 25 true 8 [(2, none), (4, none), (5, none)] (0, 0)
noncomputable abbrev K40n3 : Key := nodeKey PROG 47 true 3 [(3, some 1), (6, none), (7, none), (8, none)] (0, 0)
noncomputable abbrev K18n6 : Key := nodeKey PROG 39 true 6 [(3, none), (4, none), (6, none), (8, none), (9, none), (11, none), (38, none), (39, none)] (0, 0)
noncomputable abbrev K37n4m1 : Key := nodeKey PROG 82 true 4 [(1, none), (2, none), (21, none), (22, none)] (1, 0)
noncomputable abbrev K41n1 : Key := nodeKey PROG 83 true 1 [(0, none), (1, none)] (0, 0)
noncomputable abbrev K75n2 : Key := nodeKey PROG 109 true 2 [(0, none), (1, none), (7, none), (8, none)] (0, 0)
noncomputable abbrev K42n4 : Key := nodeKey PROG 84 true 4 [(0, none), (1, none), (6, none), (8, none)] (0, 0)
noncomputable abbrev K42n12 : Key := nodeKey PROG 84 true 12 [(0, none), (1, none), (6, none), (8, none), (11, none), (53, none), (54, none), (55, none)] (0, 0)
noncomputable abbrev K42n19 : Key := nodeKey PROG 84 true 19 [(1, none), (6, none), (8, some 1000001), (11, none), (14, none), (15, none), (68, none), (69, none), (70, none)] (0, 0)
noncomputable abbrev K7n6 : Key := nodeKey PROG 7 true 6 [(0, none), (1, none), (4, none), (5, none)] (0, 0)
theorem e6 (O : Orc) (ea0 : Bool) (a0 : List (List T)) (a1 : Int) (a2 : Int) : stepO PROG ann O (Key.call 12) [(AV.t (T.lst 3 ea0 a0)), (I a1), (I a2)] [] =
  (gdK none (O (Key.call 15) [AV.t (T.lst 3 ea0 a0), I a1, I a2] []) fun l => gdK none l.head? fun x => gdK none (T.int? IntKind.i64 x) fun n => gdK none l.tail.head? fun x => gdK none (T.int? IntKind.i64 x) fun n_1 => bif
 !n == (0 : Int) then some [T.emp true, T.int IntKind.i64 n, T.int IntKind.i64 n_1] else O K6n6 [AV.t (T.lst 3 ea0 a0), I a1, I a2, AV.ref (Id.c 0) 0, AV.own (Id.c 1), AV.t (T.lst 3 ea0 a0), I (↑a0.length : Int), I (0 :
 Int)] [Blk.box [I (0 : Int), I (0 : Int)], Blk.sl false 3 true []]) := by kernel_rfl
theorem eq14 (O : Orc) (ea0 : Bool) (a0 : List (List T)) (ea1 : Bool) (a1 : List (List T)) : stepO PROG ann O (Key.call 14) [(AV.t (T.lst 3 ea0 a0)), (AV.t (T.lst 2 ea1 a1))] [] =
  (O Kq14n2 [AV.t (T.lst 3 ea0 a0), AV.t (T.lst 2 ea1 a1), I (0 : Int)] []) := by kernel_rfl
theorem e15 (O : Orc) (ea0 : Bool) (a0 : List (List T)) (a1 : Int) (a2 : Int) : stepO PROG ann O (Key.call 15) [(AV.t (T.lst 3 ea0 a0)), (I a1), (I a2)] [] =
  (gdK none (O (Key.call 42) [AV.t (T.lst 3 ea0 a0), I a1] []) fun l => gdK none l.head? fun x => gdK none (T.int? IntKind.i64 x) fun n => gdK none l.tail.head? fun x => gdK none (T.int? IntKind.i64 x) fun n_1 => bif !n ==
 (0 : Int) then some [T.int IntKind.i64 n, T.int IntKind.i64 n_1] else bif bif decide (a2 < (0 : Int)) then true else decide (a2 ≥ a1) then some [T.int IntKind.i64 (3 : Int), T.int IntKind.i64 (-1 : Int)] else some [T.int
 IntKind.i64 (0 : Int), T.int IntKind.i64 (0 : Int)]) := by kernel_rfl
theorem e6n6 (O : Orc) (ev0 : Bool) (v0 : List (List T)) (v1 : Int) (v2 : Int) (ev30 : Bool) (v30 : List (List T)) (v31 : Int) (v32 : Int) (c0_0 : Int) (c0_1 : Int) (ec1 : Bool) (c1 : List (List T)) : stepO PROG ann O K6n6 [(AV.t (T.lst 3 ev0 v0)), (I v1), (I v2), (AV.ref (Id.c 0) 0), (AV.own (Id.c 1)), (AV.t (T.lst 3 ev30 v30)), (I v31), (I v32)] [(Blk.box [(I c0_0), (I c0_1)]), (Blk.sl false 3 ec1 c1)] =
  (bif decide (v32 < v31) then gdK none (if (0 : Int) ≤ v32 ∧ v32 < (↑v30.length : Int) then some () else none) fun x => gdK none v30[v32.toNat]? fun l => gdK none l.head? fun x => gdK none l.tail.head? fun x_1 => gdK none
 l.tail.tail.head? fun x_2 => gdK none (T.lst? 1 x) fun p => gdK none (T.int? IntKind.i64 x_1) fun n => gdK none (T.int? IntKind.i64 x_2) fun n_1 => gdK (some !decide (v2 ≥ (↑p.snd.length : Int))) (if (0 : Int) ≤ v2 ∧ v2 <
 (↑p.snd.length : Int) then some () else none) fun x => gdK (some !decide (v2 ≥ (↑p.snd.length : Int))) p.snd[v2.toNat]? fun l => gdK (some !decide (v2 ≥ (↑p.snd.length : Int))) l.head? fun x => gdK (some !decide (v2 ≥
 (↑p.snd.length : Int))) (T.int? IntKind.i64 x) fun n_2 => bif bif decide (v2 ≥ (↑p.snd.length : Int)) then true else n_2 == (0 : Int) then gdK none (O (Key.call 38) [AV.agg [AV.t (T.lst 1 p.fst p.snd), I n, I n_1]] [])
 fun l => gdK none l.head? fun x => gdK none (T.lst? 1 x) fun p => gdK none l.tail.head? fun x => gdK none (T.int? IntKind.i64 x) fun n => gdK none l.tail.tail.head? fun x => gdK none (T.int? IntKind.i64 x) fun n_3 => gdK
 none (List.drop 3 l).head? fun x => gdK none (T.int? IntKind.i64 x) fun n_4 => gdK none (List.drop 3 l).tail.head? fun x => gdK none (T.int? IntKind.i64 x) fun n_5 => gdK none (small 40 (c1.length + [[T.lst 1 p.fst p.snd,
 T.int IntKind.i64 n, T.int IntKind.i64 n_3]].length)) fun x => O K6n6 [AV.t (T.lst 3 ev0 v0), I v1, I v2, AV.ref (Id.c 0) 0, AV.own (Id.c 1), AV.t (T.lst 3 ev30 v30), I v31, I (IntKind.i64.wrap (v32 + (1 : Int)))]
 [Blk.box [I c0_0, I c0_1], Blk.sl false 3 (ec1 && false) (c1 ++ [[T.lst 1 p.fst p.snd, T.int IntKind.i64 n, T.int IntKind.i64 n_3]])] else O K6n6 [AV.t (T.lst 3 ev0 v0), I v1, I v2, AV.ref (Id.c 0) 0, AV.own (Id.c 1),
 AV.t (T.lst 3 ev30 v30), I v31, I (IntKind.i64.wrap (v32 + (1 : Int)))] [Blk.box [I c0_0, I c0_1], Blk.sl false 3 ec1 c1] else gdK none (O (Key.call 17) [AV.t (T.lst 3 ev0 v0), I v1, I v2] []) fun l => gdK none l.head?
 fun x => gdK none (T.lst? 4 x) fun p => gdK none l.tail.head? fun x => gdK none (T.lst? 4 x) fun p_1 => O K6n14 [I v2, AV.ref (Id.c 0) 0, AV.own (Id.c 1), AV.t (T.lst 4 p_1.fst p_1.snd), AV.t (T.lst 4 p.fst p.snd), I
 (↑p.snd.length : Int), I (0 : Int)] [Blk.box [I c0_0, I c0_1], Blk.sl false 3 ec1 c1]) := by kernel_rfl
theorem eq14n2 (O : Orc) (ev0 : Bool) (v0 : List (List T)) (ev1 : Bool) (v1 : List (List T)) (v5 : Int) : stepO PROG ann O Kq14n2 [(AV.t (T.lst 3 ev0 v0)), (AV.t (T.lst 2 ev1 v1)), (I v5)] [] =
  (bif decide (v5 < (↑v0.length : Int)) then gdK none (if (0 : Int) ≤ v5 ∧ v5 < (↑v0.length : Int) then some () else none) fun x => gdK none v0[v5.toNat]? fun l => gdK none l.head? fun x => gdK none l.tail.head? fun x_1 =>
 gdK none l.tail.tail.head? fun x_2 => gdK none (T.lst? 1 x) fun p => gdK none (T.int? IntKind.i64 x_1) fun n => gdK none (T.int? IntKind.i64 x_2) fun n_1 => gdK none (O (Key.call 40) [AV.agg [AV.t (T.lst 1 p.fst p.snd), I
 n, I n_1], AV.t (T.lst 2 ev1 v1)] []) fun l => gdK none l.head? fun x => gdK none (T.int? IntKind.i64 x) fun n => gdK none l.tail.head? fun x => gdK none (T.int? IntKind.i64 x) fun n_2 => gdK (some !!n == (0 : Int)) (if
 (0 : Int) ≤ v5 ∧ v5 < (↑v0.length : Int) then some () else none) fun x => gdK (some !!n == (0 : Int)) v0[v5.toNat]? fun l => gdK (some !!n == (0 : Int)) l.head? fun x => gdK (some !!n == (0 : Int)) l.tail.head? fun x_3 =>
 gdK (some !!n == (0 : Int)) l.tail.tail.head? fun x_4 => gdK (some !!n == (0 : Int)) (T.lst? 1 x) fun p => gdK (some !!n == (0 : Int)) (T.int? IntKind.i64 x_3) fun n_3 => gdK (some !!n == (0 : Int)) (T.int? IntKind.i64
 x_4) fun n_4 => gdK none (askO (some !!n == (0 : Int)) (O (Key.call 41) [AV.agg [AV.t (T.lst 1 p.fst p.snd), I n_3, I n_4], AV.t (T.lst 2 ev1 v1)] [])) fun l => gdK (some !!n == (0 : Int)) l.head? fun x => gdK (some !!n
 == (0 : Int)) x.bool? fun b => bif bif !n == (0 : Int) then true else !b then some [T.bool false] else O Kq14n2 [AV.t (T.lst 3 ev0 v0), AV.t (T.lst 2 ev1 v1), I (IntKind.i64.wrap (v5 + (1 : Int)))] [] else some [T.bool
 true]) := by kernel_rfl
theorem e25 (O : Orc) (ea0 : Bool) (a0 : List (List T)) (a1 : Int) : stepO PROG ann O (Key.call 42) [(AV.t (T.lst 3 ea0 a0)), (I a1)] [] =
  (bif bif decide (a1 < (0 : Int)) then true else decide (a1 > (12 : Int)) then some [T.int IntKind.i64 (3 : Int), T.int IntKind.i64 (-1 : Int)] else bif decide ((↑a0.length : Int) > (40 : Int)) then some [T.int IntKind.i64
 (2 : Int), T.int IntKind.i64 (0 : Int)] else O K25n6 [I a1, AV.ref (Id.c 0) 0, AV.t (T.lst 3 ea0 a0), I (↑a0.length : Int), I (0 : Int)] [Blk.box [I (0 : Int), I (0 : Int)]]) := by kernel_rfl
theorem e16 (O : Orc) (ea0_0 : Bool) (a0_0 : List (List T)) (a0_1 : Int) (a0_2 : Int) : stepO PROG ann O (Key.call 38) [(AV.agg [(AV.t (T.lst 1 ea0_0 a0_0)), (I a0_1), (I a0_2)])] [] =
  (gdK none (O (Key.call 78) [AV.agg [AV.t (T.lst 1 ea0_0 a0_0), I a0_1, I a0_2], I (12 : Int)] []) fun l => gdK none l.head? fun x => gdK none (T.int? IntKind.i64 x) fun n => gdK none l.tail.head? fun x => gdK none (T.int?
 IntKind.i64 x) fun n_1 => bif !n == (0 : Int) then none else gdK none (O (Key.call 79) [AV.t (T.lst 1 ea0_0 a0_0)] []) fun l => gdK none l.head? fun x => gdK none (T.lst? 1 x) fun p => bif (↑p.snd.length : Int) == (0 :
 Int) then gdK none (O (Key.call 80) [I a0_1, I a0_2] []) fun l => gdK none l.head? fun x => gdK none (T.lst? 1 x) fun p => gdK none l.tail.head? fun x => gdK none (T.int? IntKind.i64 x) fun n => gdK none l.tail.tail.head?
 fun x => gdK none (T.int? IntKind.i64 x) fun n_2 => some [T.lst 1 p.fst p.snd, T.int IntKind.i64 n, T.int IntKind.i64 n_2, T.int IntKind.i64 (0 : Int), T.int IntKind.i64 (0 : Int)] else gdK none (O (Key.call 81) [I a0_2,
 I (0 : Int)] []) fun l => gdK none l.head? fun x => gdK none (T.int? IntKind.i64 x) fun n => O K16n9 [AV.ref (Id.c 0) 0, AV.ref (Id.c 1) 0, AV.ref (Id.c 2) 0, AV.own (Id.c 3), I n, AV.own (Id.c 3), I (↑p.snd.length :
 Int), I (0 : Int)] [Blk.box [AV.t (T.lst 1 ea0_0 a0_0), I a0_1, I a0_2], Blk.box [AV.t (T.emp true), I (0 : Int), I (0 : Int)], Blk.box [I (0 : Int), I (0 : Int)], Blk.sl false 1 p.fst p.snd]) := by kernel_rfl
theorem e17 (O : Orc) (ea0 : Bool) (a0 : List (List T)) (a1 : Int) (a2 : Int) : stepO PROG ann O (Key.call 17) [(AV.t (T.lst 3 ea0 a0)), (I a1), (I a2)] [] =
  (O K17n4 [I a1, AV.ref (Id.c 0) 0, AV.ref (Id.c 1) 0, AV.ref (Id.c 2) 0, AV.fn 45 [] [AV.ref (Id.c 0) 0, AV.ref (Id.c 1) 0, AV.ref (Id.c 2) 0], AV.t (T.lst 3 ea0 a0), I (↑a0.length : Int), I (0 : Int)] [Blk.box [I a2],
 Blk.box [AV.own (Id.c 3)], Blk.box [AV.own (Id.c 4)], Blk.sl false 4 true [], Blk.sl false 4 true []]) := by kernel_rfl
theorem e6n14 (O : Orc) (v2 : Int) (ev15 : Bool) (v15 : List (List T)) (ev66 : Bool) (v66 : List (List T)) (v67 : Int) (v68 : Int) (c0_0 : Int) (c0_1 : Int) (ec1 : Bool) (c1 : List (List T)) : stepO PROG ann O K6n14 [(I v2), (AV.ref (Id.c 0) 0), (AV.own (Id.c 1)), (AV.t (T.lst 4 ev15 v15)), (AV.t (T.lst 4 ev66 v66)), (I v67), (I v68)] [(Blk.box [(I c0_0), (I c0_1)]), (Blk.sl false 3 ec1 c1)] =
  (bif decide (v68 < v67) then gdK none (if (0 : Int) ≤ v68 ∧ v68 < (↑v66.length : Int) then some () else none) fun x => gdK none v66[v68.toNat]? fun l => gdK none l.head? fun x => gdK none l.tail.head? fun x_1 => gdK none
 l.tail.tail.head? fun x_2 => gdK none l.tail.tail.tail.head? fun x_3 => gdK none (T.lst? 1 x) fun p => gdK none (T.int? IntKind.i64 x_1) fun n => gdK none x_2.bool? fun b => gdK none (T.int? IntKind.i64 x_3) fun n_1 => O
 K6n17 [I v2, AV.ref (Id.c 0) 0, AV.own (Id.c 1), AV.t (T.lst 4 ev15 v15), AV.ref (Id.c 2) 0, AV.t (T.lst 4 ev66 v66), I v67, I v68, AV.t (T.lst 4 ev15 v15), I (↑v15.length : Int), I (0 : Int)] [Blk.box [I c0_0, I c0_1],
 Blk.sl false 3 ec1 c1, Blk.box [AV.t (T.lst 1 p.fst p.snd), I n, B b, I n_1]] else some [T.lst 3 ec1 c1, T.int IntKind.i64 (0 : Int), T.int IntKind.i64 (0 : Int)]) := by kernel_rfl
theorem eq40 (O : Orc) (ea0_0 : Bool) (a0_0 : List (List T)) (a0_1 : Int) (a0_2 : Int) (ea1 : Bool) (a1 : List (List T)) : stepO PROG ann O (Key.call 40) [(AV.agg [(AV.t (T.lst 1 ea0_0 a0_0)), (I a0_1), (I a0_2)]), (AV.t (T.lst 2 ea1 a1))] [] =
  (gdK none (O (Key.call 25) [AV.agg [AV.t (T.lst 1 ea0_0 a0_0), I a0_1, I a0_2], I (↑a1.length : Int)] []) fun l => gdK none l.head? fun x => gdK none (T.int? IntKind.i64 x) fun n => gdK none l.tail.head? fun x => gdK none
 (T.int? IntKind.i64 x) fun n_1 => O Kq40n3 [AV.t (T.lst 2 ea1 a1), AV.ref (Id.c 0) 0, AV.ref (Id.c 1) 0, I (0 : Int)] [Blk.box [I (0 : Int), I (0 : Int)], Blk.box [I n, I n_1]]) := by kernel_rfl
theorem eq41 (O : Orc) (ea0_0 : Bool) (a0_0 : List (List T)) (a0_1 : Int) (a0_2 : Int) (ea1 : Bool) (a1 : List (List T)) : stepO PROG ann O (Key.call 41) [(AV.agg [(AV.t (T.lst 1 ea0_0 a0_0)), (I a0_1), (I a0_2)]), (AV.t (T.lst 2 ea1 a1))] [] =
  (gdK none (O (Key.call 85) [AV.t (T.lst 1 ea0_0 a0_0), AV.t (T.lst 2 ea1 a1)] []) fun l => gdK none l.head? fun x => gdK none (O (Key.call 31) [I a0_2, I (1 : Int)] []) fun l => gdK none l.head? fun x_1 => gdK none (O
 (Key.call 35) [AV.t x, AV.t x_1] []) fun l => gdK none l.head? fun x => gdK none (T.int? IntKind.i64 x) fun n => some [T.bool (bif bif decide (n < (0 : Int)) then !a0_1 == (3 : Int) else false then true else bif n == (0 :
 Int) then !a0_1 == (2 : Int) else false)]) := by kernel_rfl
theorem e25n6 (O : Orc) (v1 : Int) (ev21 : Bool) (v21 : List (List T)) (v22 : Int) (v23 : Int) (c0_0 : Int) (c0_1 : Int) : stepO PROG ann O K25n6 [(I v1), (AV.ref (Id.c 0) 0), (AV.t (T.lst 3 ev21 v21)), (I v22), (I v23)] [(Blk.box [(I c0_0), (I c0_1)])] =
  (bif decide (v23 < v22) then gdK none (if (0 : Int) ≤ v23 ∧ v23 < (↑v21.length : Int) then some () else none) fun x => gdK none v21[v23.toNat]? fun l => gdK none l.head? fun x => gdK none l.tail.head? fun x_1 => gdK none
 l.tail.tail.head? fun x_2 => gdK none (T.lst? 1 x) fun p => gdK none (T.int? IntKind.i64 x_1) fun n => gdK none (T.int? IntKind.i64 x_2) fun n_1 => gdK none (O (Key.call 78) [AV.agg [AV.t (T.lst 1 p.fst p.snd), I n, I
 n_1], I v1] []) fun l => gdK none l.head? fun x => gdK none (T.int? IntKind.i64 x) fun n => gdK none l.tail.head? fun x => gdK none (T.int? IntKind.i64 x) fun n_2 => bif !n == (0 : Int) then some [T.int IntKind.i64 n,
 T.int IntKind.i64 v23] else O K25n6 [I v1, AV.ref (Id.c 0) 0, AV.t (T.lst 3 ev21 v21), I v22, I (IntKind.i64.wrap (v23 + (1 : Int)))] [Blk.box [I c0_0, I c0_1]] else some [T.int IntKind.i64 (0 : Int), T.int IntKind.i64 (0
 : Int)]) := by kernel_rfl
theorem e33 (O : Orc) (ea0_0 : Bool) (a0_0 : List (List T)) (a0_1 : Int) (a0_2 : Int) (a1 : Int) : stepO PROG ann O (Key.call 78) [(AV.agg [(AV.t (T.lst 1 ea0_0 a0_0)), (I a0_1), (I a0_2)]), (I a1)] [] =
  (bif bif decide (a1 < (0 : Int)) then true else decide (a1 > (12 : Int)) then some [T.int IntKind.i64 (3 : Int), T.int IntKind.i64 (-1 : Int)] else bif bif bif !a0_1 == (1 : Int) then !a0_1 == (2 : Int) else false then
 !a0_1 == (3 : Int) else false then some [T.int IntKind.i64 (4 : Int), T.int IntKind.i64 (0 : Int)] else bif decide ((↑a0_0.length : Int) > a1) then some [T.int IntKind.i64 (9 : Int), T.int IntKind.i64 (0 : Int)] else gdK
 none (O (Key.call 86) [AV.t (T.lst 1 ea0_0 a0_0)] []) fun l => gdK none l.head? fun x => gdK none (T.lst? 1 x) fun p => gdK none (small 8 (p.snd.length + [[T.int IntKind.i64 a0_2]].length)) fun x => O K33n8 [AV.ref (Id.c
 0) 0, AV.own (Id.c 1), I (↑(p.snd ++ [[T.int IntKind.i64 a0_2]]).length : Int), I (0 : Int)] [Blk.box [I (0 : Int), I (0 : Int)], Blk.sl false 1 (p.fst && false) (p.snd ++ [[T.int IntKind.i64 a0_2]])]) := by kernel_rfl
theorem e34 (O : Orc) (ea0 : Bool) (a0 : List (List T)) : stepO PROG ann O (Key.call 79) [(AV.t (T.lst 1 ea0 a0))] [] =
  (O K34n1 [AV.t (T.lst 1 ea0 a0)] []) := by kernel_rfl
theorem e35 (O : Orc) (a0 : Int) (a1 : Int) : stepO PROG ann O (Key.call 80) [(I a0), (I a1)] [] =
  (bif bif a0 == (1 : Int) then decide (a1 < (0 : Int)) else false then some [T.emp true, T.int IntKind.i64 a0, T.int IntKind.i64 (-1 : Int)] else bif bif a0 == (2 : Int) then decide (a1 > (0 : Int)) else false then bif bif
 a0 == (2 : Int) then decide (a1 > (0 : Int)) else false then some [T.emp true, T.int IntKind.i64 a0, T.int IntKind.i64 (1 : Int)] else some [T.emp true, T.int IntKind.i64 a0, T.int IntKind.i64 (0 : Int)] else bif bif a0
 == (3 : Int) then !a1 == (0 : Int) else false then some [T.emp true, T.int IntKind.i64 a0, T.int IntKind.i64 (1 : Int)] else some [T.emp true, T.int IntKind.i64 a0, T.int IntKind.i64 (0 : Int)]) := by kernel_rfl
theorem e36 (O : Orc) (a0 : Int) (a1 : Int) : stepO PROG ann O (Key.call 81) [(I a0), (I a1)] [] =
  (O K36n1 [I a0, I a1] []) := by kernel_rfl
theorem e16n9 (O : Orc) (v6 : Int) (v33 : Int) (v34 : Int) (ec0_0 : Bool) (c0_0 : List (List T)) (c0_1 : Int) (c0_2 : Int) (ec1_0 : Bool) (c1_1 : Int) (c1_2 : Int) (c2_0 : Int) (c2_1 : Int) (ec3 : Bool) (c3 : List (List T)) : stepO PROG ann O K16n9 [(AV.ref (Id.c 0) 0), (AV.ref (Id.c 1) 0), (AV.ref (Id.c 2) 0), (AV.own (Id.c 3)), (I v6), (AV.own (Id.c 3)), (I v33), (I v34)] [(Blk.box [(AV.t (T.lst 1 ec0_0 c0_0)), (I c0_1), (I c0_2)]), (Blk.box [(AV.t (T.emp ec1_0)), (I c1_1), (I c1_2)]), (Blk.box [(I c2_0), (I c2_1)]), (Blk.sl false 1 ec3 c3)] =
  (bif decide (v34 < v33) then gdK none (if (0 : Int) ≤ v34 ∧ v34 < (↑c3.length : Int) then some () else none) fun x => gdK none c3[v34.toNat]? fun l => gdK none l.head? fun x => gdK none (T.int? IntKind.i64 x) fun n => gdK
 none (O (Key.call 81) [I v6, I n] []) fun l => gdK none l.head? fun x => gdK none (T.int? IntKind.i64 x) fun n => O K16n9 [AV.ref (Id.c 0) 0, AV.ref (Id.c 1) 0, AV.ref (Id.c 2) 0, AV.own (Id.c 3), I n, AV.own (Id.c 3), I
 v33, I (IntKind.i64.wrap (v34 + (1 : Int)))] [Blk.box [AV.t (T.lst 1 ec0_0 c0_0), I c0_1, I c0_2], Blk.box [AV.t (T.emp ec1_0), I c1_1, I c1_2], Blk.box [I c2_0, I c2_1], Blk.sl false 1 ec3 c3] else O K16n14 [AV.ref (Id.c
 0) 0, AV.ref (Id.c 1) 0, AV.ref (Id.c 2) 0, AV.own (Id.c 3), I v6, I (↑c3.length : Int), I (0 : Int)] [Blk.box [AV.t (T.lst 1 ec0_0 c0_0), I c0_1, I c0_2], Blk.box [AV.t (T.emp ec1_0), I c1_1, I c1_2], Blk.box [I c2_0, I
 c2_1], Blk.sl false 1 ec3 c3]) := by kernel_rfl
theorem e17n4 (O : Orc) (v1 : Int) (ev15 : Bool) (v15 : List (List T)) (v16 : Int) (v17 : Int) (c0 : Int) (ec3 : Bool) (c3 : List (List T)) (ec4 : Bool) (c4 : List (List T)) : stepO PROG ann O K17n4 [(I v1), (AV.ref (Id.c 0) 0), (AV.ref (Id.c 1) 0), (AV.ref (Id.c 2) 0), (AV.fn 45 [] [(AV.ref (Id.c 0) 0), (AV.ref (Id.c 1) 0), (AV.ref (Id.c 2) 0)]), (AV.t (T.lst 3 ev15 v15)), (I v16), (I v17)] [(Blk.box [(I c0)]), (Blk.box [(AV.own (Id.c 3))]), (Blk.box [(AV.own (Id.c 4))]), (Blk.sl false 4 ec3 c3), (Blk.sl false 4 ec4 c4)] =
  (bif decide (v17 < v16) then gdK none (if (0 : Int) ≤ v17 ∧ v17 < (↑v15.length : Int) then some () else none) fun x => gdK none v15[v17.toNat]? fun l => gdK none l.head? fun x => gdK none l.tail.head? fun x_1 => gdK none
 l.tail.tail.head? fun x_2 => gdK none (T.lst? 1 x) fun p => gdK none (T.int? IntKind.i64 x_1) fun n => gdK none (T.int? IntKind.i64 x_2) fun n_1 => gdK none (O (Key.call 46) [AV.t (T.lst 1 p.fst p.snd), I v1] []) fun l =>
 gdK none l.head? fun x => gdK none (T.lst? 1 x) fun p => gdK none (if (0 : Int) ≤ c0 ∧ c0 < (↑p.snd.length : Int) then some () else none) fun x => gdK none p.snd[c0.toNat]? fun l => gdK none l.head? fun x => gdK none
 (T.int? IntKind.i64 x) fun n_2 => bif n_2 == (0 : Int) then O K17n4 [I v1, AV.ref (Id.c 0) 0, AV.ref (Id.c 1) 0, AV.ref (Id.c 2) 0, AV.fn 45 [] [AV.ref (Id.c 0) 0, AV.ref (Id.c 1) 0, AV.ref (Id.c 2) 0], AV.t (T.lst 3 ev15
 v15), I v16, I (IntKind.i64.wrap (v17 + (1 : Int)))] [Blk.box [I c0], Blk.box [AV.own (Id.c 3)], Blk.box [AV.own (Id.c 4)], Blk.sl false 4 ec3 c3, Blk.sl false 4 ec4 c4] else gdK none (O (Key.call 45) [AV.agg [AV.t (T.lst
 1 p.fst p.snd), I n_1, B (n == (2 : Int)), I v17], AV.ref (Id.c 0) 0, AV.ref (Id.c 1) 0, AV.ref (Id.c 2) 0] [Blk.box [I c0], Blk.box [AV.own (Id.c 3)], Blk.box [AV.own (Id.c 4)], Blk.sl false 4 ec3 c3, Blk.sl false 4 ec4
 c4]) fun l => gdK none l.head? fun x => gdK none (T.int? IntKind.i64 x) fun n_3 => gdK none (List.drop 1 l).head? fun x => gdK none (T.lst? 4 x) fun p_1 => gdK none (List.drop 1 (List.drop 1 l)).head? fun x => gdK none
 (T.lst? 4 x) fun p_2 => bif n == (3 : Int) then gdK none (O (Key.call 47) [AV.t (T.lst 1 p.fst p.snd)] []) fun l => gdK none l.head? fun x => gdK none (T.lst? 1 x) fun p => gdK none (O (Key.call 45) [AV.agg [AV.t (T.lst 1
 p.fst p.snd), AV.t (T.int IntKind.i64 (IntKind.i64.wrap ((0 : Int) - n_1))), B false, I v17], AV.ref (Id.c 0) 0, AV.ref (Id.c 1) 0, AV.ref (Id.c 2) 0] [Blk.box [I n_3], Blk.box [AV.own (Id.c 3)], Blk.box [AV.own (Id.c
 4)], Blk.sl false 4 p_1.fst p_1.snd, Blk.sl false 4 p_2.fst p_2.snd]) fun l => gdK none l.head? fun x => gdK none (T.int? IntKind.i64 x) fun n => gdK none (List.drop 1 l).head? fun x => gdK none (T.lst? 4 x) fun p => gdK
 none (List.drop 1 (List.drop 1 l)).head? fun x => gdK none (T.lst? 4 x) fun p_3 => O K17n4 [I v1, AV.ref (Id.c 0) 0, AV.ref (Id.c 1) 0, AV.ref (Id.c 2) 0, AV.fn 45 [] [AV.ref (Id.c 0) 0, AV.ref (Id.c 1) 0, AV.ref (Id.c 2)
 0], AV.t (T.lst 3 ev15 v15), I v16, AV.t (T.int IntKind.i64 (IntKind.i64.wrap (v17 + (1 : Int))))] [Blk.box [I n], Blk.box [AV.own (Id.c 3)], Blk.box [AV.own (Id.c 4)], Blk.sl false 4 p.fst p.snd, Blk.sl false 4 p_3.fst
 p_3.snd] else O K17n4 [I v1, AV.ref (Id.c 0) 0, AV.ref (Id.c 1) 0, AV.ref (Id.c 2) 0, AV.fn 45 [] [AV.ref (Id.c 0) 0, AV.ref (Id.c 1) 0, AV.ref (Id.c 2) 0], AV.t (T.lst 3 ev15 v15), I v16, I (IntKind.i64.wrap (v17 + (1 :
 Int)))] [Blk.box [I n_3], Blk.box [AV.own (Id.c 3)], Blk.box [AV.own (Id.c 4)], Blk.sl false 4 p_1.fst p_1.snd, Blk.sl false 4 p_2.fst p_2.snd] else some [T.lst 4 ec3 c3, T.lst 4 ec4 c4]) := by kernel_rfl
theorem e6n17 (O : Orc) (v2 : Int) (ev15 : Bool) (v15 : List (List T)) (ev66 : Bool) (v66 : List (List T)) (v67 : Int) (v68 : Int) (ev72 : Bool) (v72 : List (List T)) (v73 : Int) (v74 : Int) (c0_0 : Int) (c0_1 : Int) (ec1 : Bool) (c1 : List (List T)) (ec2_0 : Bool) (c2_0 : List (List T)) (c2_1 : Int) (c2_2 : Bool) (c2_3 : Int) : stepO PROG ann O K6n17 [(I v2), (AV.ref (Id.c 0) 0), (AV.own (Id.c 1)), (AV.t (T.lst 4 ev15 v15)), (AV.ref (Id.c 2) 0), (AV.t (T.lst 4 ev66 v66)), (I v67), (I v68), (AV.t (T.lst 4 ev72 v72)), (I v73), (I v74)] [(Blk.box [(I c0_0), (I c0_1)]), (Blk.sl false 3 ec1 c1), (Blk.box [(AV.t (T.lst 1 ec2_0 c2_0)), (I c2_1), (B c2_2), (I c2_3)])] =
  (bif decide (v74 < v73) then gdK none (if (0 : Int) ≤ v74 ∧ v74 < (↑v72.length : Int) then some () else none) fun x => gdK none v72[v74.toNat]? fun l => gdK none l.head? fun x => gdK none l.tail.head? fun x_1 => gdK none
 l.tail.tail.head? fun x_2 => gdK none l.tail.tail.tail.head? fun x_3 => gdK none (T.lst? 1 x) fun p => gdK none (T.int? IntKind.i64 x_1) fun n => gdK none x_2.bool? fun b => gdK none (T.int? IntKind.i64 x_3) fun n_1 =>
 bif c2_3 == n_1 then O K6n17 [I v2, AV.ref (Id.c 0) 0, AV.own (Id.c 1), AV.t (T.lst 4 ev15 v15), AV.ref (Id.c 2) 0, AV.t (T.lst 4 ev66 v66), I v67, I v68, AV.t (T.lst 4 ev72 v72), I v73, I (IntKind.i64.wrap (v74 + (1 :
 Int)))] [Blk.box [I c0_0, I c0_1], Blk.sl false 3 ec1 c1, Blk.box [AV.t (T.lst 1 ec2_0 c2_0), I c2_1, B c2_2, I c2_3]] else gdK none (O (Key.call 39) [AV.agg [AV.t (T.lst 1 ec2_0 c2_0), I c2_1, B c2_2, I c2_3], AV.agg
 [AV.t (T.lst 1 p.fst p.snd), I n, B b, I n_1], I v2] []) fun l => gdK none l.head? fun x => gdK none (T.lst? 1 x) fun p => gdK none l.tail.head? fun x => gdK none (T.int? IntKind.i64 x) fun n => gdK none l.tail.tail.head?
 fun x => gdK none (T.int? IntKind.i64 x) fun n_2 => gdK none (List.drop 3 l).head? fun x => gdK none x.bool? fun b => bif !b then some [T.emp true, T.int IntKind.i64 (10 : Int), T.int IntKind.i64 (0 : Int)] else gdK none
 (small 40 (c1.length + [[T.lst 1 p.fst p.snd, T.int IntKind.i64 n, T.int IntKind.i64 n_2]].length)) fun x => bif decide ((↑(c1 ++ [[T.lst 1 p.fst p.snd, T.int IntKind.i64 n, T.int IntKind.i64 n_2]]).length : Int) > (40 :
 Int)) then some [T.emp true, T.int IntKind.i64 (2 : Int), T.int IntKind.i64 (0 : Int)] else O K6n17 [I v2, AV.ref (Id.c 0) 0, AV.own (Id.c 1), AV.t (T.lst 4 ev15 v15), AV.ref (Id.c 2) 0, AV.t (T.lst 4 ev66 v66), I v67, I
 v68, AV.t (T.lst 4 ev72 v72), I v73, I (IntKind.i64.wrap (v74 + (1 : Int)))] [Blk.box [I c0_0, I c0_1], Blk.sl false 3 (ec1 && false) (c1 ++ [[T.lst 1 p.fst p.snd, T.int IntKind.i64 n, T.int IntKind.i64 n_2]]), Blk.box
 [AV.t (T.lst 1 ec2_0 c2_0), I c2_1, B c2_2, I c2_3]] else O K6n14 [I v2, AV.ref (Id.c 0) 0, AV.own (Id.c 1), AV.t (T.lst 4 ev15 v15), AV.t (T.lst 4 ev66 v66), I v67, I (IntKind.i64.wrap (v68 + (1 : Int)))] [Blk.box [I
 c0_0, I c0_1], Blk.sl false 3 ec1 c1]) := by kernel_rfl
theorem e19 (O : Orc) (ea0_0 : Bool) (a0_0 : List (List T)) (a0_1 : Int) (a0_2 : Int) (a1 : Int) : stepO PROG ann O (Key.call 25) [(AV.agg [(AV.t (T.lst 1 ea0_0 a0_0)), (I a0_1), (I a0_2)]), (I a1)] [] =
  (bif bif decide (a1 < (0 : Int)) then true else decide (a1 > (12 : Int)) then gdK none (O (Key.call 8) [I (3 : Int), I (-1 : Int)] []) fun l => gdK none l.head? fun x => gdK none (T.int? IntKind.i64 x) fun n => gdK none
 l.tail.head? fun x => gdK none (T.int? IntKind.i64 x) fun n_1 => some [T.int IntKind.i64 n, T.int IntKind.i64 n_1] else bif bif bif !a0_1 == (1 : Int) then !a0_1 == (2 : Int) else false then !a0_1 == (3 : Int) else false
 then gdK none (O (Key.call 8) [I (4 : Int), I (0 : Int)] []) fun l => gdK none l.head? fun x => gdK none (T.int? IntKind.i64 x) fun n => gdK none l.tail.head? fun x => gdK none (T.int? IntKind.i64 x) fun n_1 => some
 [T.int IntKind.i64 n, T.int IntKind.i64 n_1] else bif decide ((↑a0_0.length : Int) > a1) then gdK none (O (Key.call 8) [I (9 : Int), I (0 : Int)] []) fun l => gdK none l.head? fun x => gdK none (T.int? IntKind.i64 x) fun
 n => gdK none l.tail.head? fun x => gdK none (T.int? IntKind.i64 x) fun n_1 => some [T.int IntKind.i64 n, T.int IntKind.i64 n_1] else O K19n8 [AV.ref (Id.c 0) 0, AV.ref (Id.c 1) 0, I (0 : Int)] [Blk.box [AV.t (T.lst 1
 ea0_0 a0_0), I a0_1, I a0_2], Blk.box [I (0 : Int), I (0 : Int)]]) := by kernel_rfl
theorem eq40n3 (O : Orc) (ev1 : Bool) (v1 : List (List T)) (v6 : Int) (c0_0 : Int) (c0_1 : Int) (c1_0 : Int) (c1_1 : Int) : stepO PROG ann O Kq40n3 [(AV.t (T.lst 2 ev1 v1)), (AV.ref (Id.c 0) 0), (AV.ref (Id.c 1) 0), (I v6)] [(Blk.box [(I c0_0), (I c0_1)]), (Blk.box [(I c1_0), (I c1_1)])] =
  (bif bif decide (v6 < (↑v1.length : Int)) then c1_0 == (0 : Int) else false then gdK none (if (0 : Int) ≤ v6 ∧ v6 < (↑v1.length : Int) then some () else none) fun x => gdK none v1[v6.toNat]? fun l => gdK none l.head? fun x
 => gdK none l.tail.head? fun x_1 => gdK none (T.int? IntKind.i64 x) fun n => gdK none (T.int? IntKind.i64 x_1) fun n_1 => gdK none (O (Key.call 9) [AV.agg [I n, I n_1]] []) fun l => gdK none l.head? fun x => gdK none
 x.bool? fun b => bif !b then gdK none (O (Key.call 8) [I (5 : Int), I v6] []) fun l => gdK none l.head? fun x => gdK none (T.int? IntKind.i64 x) fun n => gdK none l.tail.head? fun x => gdK none (T.int? IntKind.i64 x) fun
 n_2 => O Kq40n3 [AV.t (T.lst 2 ev1 v1), AV.ref (Id.c 0) 0, AV.ref (Id.c 1) 0, I (IntKind.i64.wrap (v6 + (1 : Int)))] [Blk.box [I c0_0, I c0_1], Blk.box [I n, I n_2]] else O Kq40n3 [AV.t (T.lst 2 ev1 v1), AV.ref (Id.c 0) 0,
 AV.ref (Id.c 1) 0, I (IntKind.i64.wrap (v6 + (1 : Int)))] [Blk.box [I c0_0, I c0_1], Blk.box [I c1_0, I c1_1]] else some [T.int IntKind.i64 c1_0, T.int IntKind.i64 c1_1]) := by kernel_rfl
theorem e73 (O : Orc) (ea0 : Bool) (a0 : List (List T)) : stepO PROG ann O (Key.call 86) [(AV.t (T.lst 1 ea0 a0))] [] =
  (bif ea0 then some [T.emp true] else gdK none (small 8 (0 + a0.length)) fun x => some [T.lst 1 false a0]) := by kernel_rfl
theorem e33n8 (O : Orc) (v44 : Int) (v45 : Int) (c0_0 : Int) (c0_1 : Int) (ec1 : Bool) (c1 : List (List T)) : stepO PROG ann O K33n8 [(AV.ref (Id.c 0) 0), (AV.own (Id.c 1)), (I v44), (I v45)] [(Blk.box [(I c0_0), (I c0_1)]), (Blk.sl false 1 ec1 c1)] =
  (bif decide (v45 < v44) then gdK none (if (0 : Int) ≤ v45 ∧ v45 < (↑c1.length : Int) then some () else none) fun x => gdK none c1[v45.toNat]? fun l => gdK none l.head? fun x => gdK none (T.int? IntKind.i64 x) fun n => gdK
 none (O (Key.call 108) [I n] []) fun l => gdK none l.head? fun x => gdK none x.bool? fun b => bif !b then some [T.int IntKind.i64 (3 : Int), T.int IntKind.i64 v45] else O K33n8 [AV.ref (Id.c 0) 0, AV.own (Id.c 1), I v44,
 I (IntKind.i64.wrap (v45 + (1 : Int)))] [Blk.box [I c0_0, I c0_1], Blk.sl false 1 ec1 c1] else some [T.int IntKind.i64 (0 : Int), T.int IntKind.i64 (0 : Int)]) := by kernel_rfl
theorem e34n1 (O : Orc) (ev0 : Bool) (v0 : List (List T)) : stepO PROG ann O K34n1 [(AV.t (T.lst 1 ev0 v0))] [] =
  (gdK (some (decide ((↑v0.length : Int) > (0 : Int)))) (if (0 : Int) ≤ IntKind.i64.wrap ((↑v0.length : Int) - (1 : Int)) ∧ IntKind.i64.wrap ((↑v0.length : Int) - (1 : Int)) < (↑v0.length : Int) then some () else none) fun x
 => gdK (some (decide ((↑v0.length : Int) > (0 : Int)))) v0[(IntKind.i64.wrap ((↑v0.length : Int) - (1 : Int))).toNat]? fun l => gdK (some (decide ((↑v0.length : Int) > (0 : Int)))) l.head? fun x => gdK (some (decide
 ((↑v0.length : Int) > (0 : Int)))) (T.int? IntKind.i64 x) fun n => bif bif decide ((↑v0.length : Int) > (0 : Int)) then n == (0 : Int) else false then gdK none (inB (0 : Int) (IntKind.i64.wrap ((↑v0.length : Int) - (1 :
 Int))) (↑v0.length : Int)) fun x => O K34n1 [AV.t (T.lst 1 ev0 (sub (0 : Int) (IntKind.i64.wrap ((↑v0.length : Int) - (1 : Int))) v0))] [] else gdK none (O (Key.call 86) [AV.t (T.lst 1 ev0 v0)] []) fun l => gdK none
 l.head? fun x => gdK none (T.lst? 1 x) fun p => some [T.lst 1 p.fst p.snd]) := by kernel_rfl
theorem e36n1 (O : Orc) (v0 : Int) (v1 : Int) : stepO PROG ann O K36n1 [(I v0), (I v1)] [] =
  (bif !v1 == (0 : Int) then gdK none (if v1 = (0 : Int) then none else some ()) fun x => O K36n1 [I v1, I (v0.tmod v1)] [] else some [T.int IntKind.i64 (mm true v0 (IntKind.i64.wrap ((0 : Int) - v0)))]) := by kernel_rfl
theorem e16n14 (O : Orc) (v6 : Int) (v43 : Int) (v44 : Int) (ec0_0 : Bool) (c0_0 : List (List T)) (c0_1 : Int) (c0_2 : Int) (ec1_0 : Bool) (c1_1 : Int) (c1_2 : Int) (c2_0 : Int) (c2_1 : Int) (ec3 : Bool) (c3 : List (List T)) : stepO PROG ann O K16n14 [(AV.ref (Id.c 0) 0), (AV.ref (Id.c 1) 0), (AV.ref (Id.c 2) 0), (AV.own (Id.c 3)), (I v6), (I v43), (I v44)] [(Blk.box [(AV.t (T.lst 1 ec0_0 c0_0)), (I c0_1), (I c0_2)]), (Blk.box [(AV.t (T.emp ec1_0)), (I c1_1), (I c1_2)]), (Blk.box [(I c2_0), (I c2_1)]), (Blk.sl false 1 ec3 c3)] =
  (bif decide (v44 < v43) then gdK none (if (0 : Int) ≤ v44 ∧ v44 < (↑c3.length : Int) then some () else none) fun x => gdK none c3[v44.toNat]? fun l => gdK none l.head? fun x => gdK none (T.int? IntKind.i64 x) fun n => gdK
 none (if v6 = (0 : Int) then none else some ()) fun x => gdK none (if (0 : Int) ≤ v44 ∧ v44 < (↑c3.length : Int) then some () else none) fun x => gdK none (storeIn v44.toNat 0 [T.int IntKind.i64 (IntKind.i64.wrap (n.tdiv
 v6))] c3) fun l => O K16n14 [AV.ref (Id.c 0) 0, AV.ref (Id.c 1) 0, AV.ref (Id.c 2) 0, AV.own (Id.c 3), I v6, I v43, I (IntKind.i64.wrap (v44 + (1 : Int)))] [Blk.box [AV.t (T.lst 1 ec0_0 c0_0), I c0_1, I c0_2], Blk.box
 [AV.t (T.emp ec1_0), I c1_1, I c1_2], Blk.box [I c2_0, I c2_1], Blk.sl false 1 ec3 l] else gdK none (if v6 = (0 : Int) then none else some ()) fun x => gdK none (O (Key.call 82) [AV.agg [AV.own (Id.c 0), I c0_1, I
 (IntKind.i64.wrap (c0_2.tdiv v6))]] [Blk.sl false 1 ec3 c3]) fun l => gdK none l.head? fun x => gdK none (T.lst? 1 x) fun p => gdK none l.tail.head? fun x => gdK none (T.int? IntKind.i64 x) fun n => gdK none
 l.tail.tail.head? fun x => gdK none (T.int? IntKind.i64 x) fun n_1 => some [T.lst 1 p.fst p.snd, T.int IntKind.i64 n, T.int IntKind.i64 n_1, T.int IntKind.i64 (0 : Int), T.int IntKind.i64 (0 : Int)]) := by kernel_rfl
theorem e39 (O : Orc) (ea0 : Bool) (a0 : List (List T)) (a1 : Int) : stepO PROG ann O (Key.call 46) [(AV.t (T.lst 1 ea0 a0)), (I a1)] [] =
  (gdK none (O (Key.call 86) [AV.t (T.lst 1 ea0 a0)] []) fun l => gdK none l.head? fun x => gdK none (T.lst? 1 x) fun p => gdK none (mkOk (IntKind.i64.wrap (a1 - (↑a0.length : Int))) (IntKind.i64.wrap (a1 - (↑a0.length :
 Int)))) fun x => gdK none (small 8 (p.snd.length + (List.replicate (IntKind.i64.wrap (a1 - (↑a0.length : Int))).toNat [T.int IntKind.i64 (0 : Int)]).length)) fun x => some [T.lst 1 (p.fst && (List.replicate
 (IntKind.i64.wrap (a1 - (↑a0.length : Int))).toNat [T.int IntKind.i64 (0 : Int)]).isEmpty) (p.snd ++ List.replicate (IntKind.i64.wrap (a1 - (↑a0.length : Int))).toNat [T.int IntKind.i64 (0 : Int)])]) := by kernel_rfl
theorem e38 (O : Orc) (ea0_0 : Bool) (a0_0 : List (List T)) (a0_1 : Int) (a0_2 : Bool) (a0_3 : Int) (c0 : Int) (ec3 : Bool) (c3 : List (List T)) (ec4 : Bool) (c4 : List (List T)) : stepO PROG ann O (Key.call 45) [(AV.agg [(AV.t (T.lst 1 ea0_0 a0_0)), (I a0_1), (B a0_2), (I a0_3)]), (AV.ref (Id.c 0) 0), (AV.ref (Id.c 1) 0), (AV.ref (Id.c 2) 0)] [(Blk.box [(I c0)]), (Blk.box [(AV.own (Id.c 3))]), (Blk.box [(AV.own (Id.c 4))]), (Blk.sl false 4 ec3 c3), (Blk.sl false 4 ec4 c4)] =
  (gdK none (if (0 : Int) ≤ c0 ∧ c0 < (↑a0_0.length : Int) then some () else none) fun x => gdK none a0_0[c0.toNat]? fun l => gdK none l.head? fun x => gdK none (T.int? IntKind.i64 x) fun n => bif decide (n > (0 : Int)) then
 gdK none (small 48 (c3.length + [[T.lst 1 ea0_0 a0_0, T.int IntKind.i64 a0_1, T.bool a0_2, T.int IntKind.i64 a0_3]].length)) fun x => some [T.int IntKind.i64 c0, T.lst 4 (ec3 && false) (c3 ++ [[T.lst 1 ea0_0 a0_0, T.int
 IntKind.i64 a0_1, T.bool a0_2, T.int IntKind.i64 a0_3]]), T.lst 4 ec4 c4] else gdK none (small 48 (c4.length + [[T.lst 1 ea0_0 a0_0, T.int IntKind.i64 a0_1, T.bool a0_2, T.int IntKind.i64 a0_3]].length)) fun x => some
 [T.int IntKind.i64 c0, T.lst 4 ec3 c3, T.lst 4 (ec4 && false) (c4 ++ [[T.lst 1 ea0_0 a0_0, T.int IntKind.i64 a0_1, T.bool a0_2, T.int IntKind.i64 a0_3]])]) := by kernel_rfl
theorem e40 (O : Orc) (ea0 : Bool) (a0 : List (List T)) : stepO PROG ann O (Key.call 47) [(AV.t (T.lst 1 ea0 a0))] [] =
  (O K40n3 [AV.own (Id.c 0), AV.t (T.lst 1 ea0 a0), I (↑a0.length : Int), I (0 : Int)] [Blk.sl false 1 true []]) := by kernel_rfl
theorem e18 (O : Orc) (ea0_0 : Bool) (a0_0 : List (List T)) (a0_1 : Int) (a0_2 : Bool) (a0_3 : Int) (ea1_0 : Bool) (a1_0 : List (List T)) (a1_1 : Int) (a1_2 : Bool) (a1_3 : Int) (a2 : Int) : stepO PROG ann O (Key.call 39) [(AV.agg [(AV.t (T.lst 1 ea0_0 a0_0)), (I a0_1), (B a0_2), (I a0_3)]), (AV.agg [(AV.t (T.lst 1 ea1_0 a1_0)), (I a1_1), (B a1_2), (I a1_3)]), (I a2)] [] =
  (gdK none (if (0 : Int) ≤ a2 ∧ a2 < (↑a0_0.length : Int) then some () else none) fun x => gdK none a0_0[a2.toNat]? fun l => gdK none l.head? fun x => gdK none (T.int? IntKind.i64 x) fun n => gdK none (if (0 : Int) ≤ a2 ∧
 a2 < (↑a1_0.length : Int) then some () else none) fun x => gdK none a1_0[a2.toNat]? fun l => gdK none l.head? fun x => gdK none (T.int? IntKind.i64 x) fun n_1 => gdK none (O (Key.call 83) [I n, I (IntKind.i64.wrap ((0 :
 Int) - n_1))] []) fun l => gdK none l.head? fun x => gdK none (T.int? IntKind.i64 x) fun n_2 => gdK none (if n_2 = (0 : Int) then none else some ()) fun x => gdK none (if n_2 = (0 : Int) then none else some ()) fun x =>
 gdK none (mkOk (↑a0_0.length : Int) (↑a0_0.length : Int)) fun x => O K18n6 [AV.ref (Id.c 0) 0, AV.ref (Id.c 1) 0, AV.ref (Id.c 2) 0, I (IntKind.i64.wrap (n.tdiv n_2)), AV.t (T.int IntKind.i64 (IntKind.i64.wrap
 ((IntKind.i64.wrap ((0 : Int) - n_1)).tdiv n_2))), AV.own (Id.c 3), AV.t (T.int IntKind.i64 (↑(List.replicate (↑a0_0.length : Int).toNat [T.int IntKind.i64 (0 : Int)]).length : Int)), I (0 : Int)] [Blk.box [AV.t (T.lst 1
 ea0_0 a0_0), I a0_1, B a0_2, I a0_3], Blk.box [AV.t (T.lst 1 ea1_0 a1_0), I a1_1, B a1_2, I a1_3], Blk.box [AV.t (T.emp true), I (0 : Int), I (0 : Int)], Blk.sl false 1 false (List.replicate (↑a0_0.length : Int).toNat
 [T.int IntKind.i64 (0 : Int)])]) := by kernel_rfl
theorem e8 (O : Orc) (a0 : Int) (a1 : Int) : stepO PROG ann O (Key.call 8) [(I a0), (I a1)] [] =
  (some [T.int IntKind.i64 a0, T.int IntKind.i64 a1]) := by kernel_rfl
theorem e19n8 (O : Orc) (v5 : Int) (ec0_0 : Bool) (c0_0 : List (List T)) (c0_1 : Int) (c0_2 : Int) (c1_0 : Int) (c1_1 : Int) : stepO PROG ann O K19n8 [(AV.ref (Id.c 0) 0), (AV.ref (Id.c 1) 0), (I v5)] [(Blk.box [(AV.t (T.lst 1 ec0_0 c0_0)), (I c0_1), (I c0_2)]), (Blk.box [(I c1_0), (I c1_1)])] =
  (bif decide (v5 < (↑c0_0.length : Int)) then gdK none (if (0 : Int) ≤ v5 ∧ v5 < (↑c0_0.length : Int) then some () else none) fun x => gdK none c0_0[v5.toNat]? fun l => gdK none l.head? fun x => gdK none (T.int? IntKind.i64
 x) fun n => gdK none (O (Key.call 57) [I n] []) fun l => gdK none l.head? fun x => gdK none x.bool? fun b => bif !b then gdK none (O (Key.call 8) [I (3 : Int), I v5] []) fun l => gdK none l.head? fun x => gdK none (T.int?
 IntKind.i64 x) fun n => gdK none l.tail.head? fun x => gdK none (T.int? IntKind.i64 x) fun n_1 => some [T.int IntKind.i64 n, T.int IntKind.i64 n_1] else O K19n8 [AV.ref (Id.c 0) 0, AV.ref (Id.c 1) 0, I (IntKind.i64.wrap
 (v5 + (1 : Int)))] [Blk.box [AV.t (T.lst 1 ec0_0 c0_0), I c0_1, I c0_2], Blk.box [I c1_0, I c1_1]] else gdK none (O (Key.call 57) [I c0_2] []) fun l => gdK none l.head? fun x => gdK none x.bool? fun b => bif !b then gdK
 none (O (Key.call 8) [I (3 : Int), I (↑c0_0.length : Int)] []) fun l => gdK none l.head? fun x => gdK none (T.int? IntKind.i64 x) fun n => gdK none l.tail.head? fun x => gdK none (T.int? IntKind.i64 x) fun n_1 => some
 [T.int IntKind.i64 n, T.int IntKind.i64 n_1] else some [T.int IntKind.i64 (0 : Int), T.int IntKind.i64 (0 : Int)]) := by kernel_rfl
theorem e74 (O : Orc) (a0 : Int) : stepO PROG ann O (Key.call 108) [(I a0)] [] =
  (some [T.bool (bif decide (a0 ≥ (-1000000 : Int)) then decide (a0 ≤ (1000000 : Int)) else false)]) := by kernel_rfl
theorem e37 (O : Orc) (a0_1 : Int) (a0_2 : Int) (ec0 : Bool) (c0 : List (List T)) : stepO PROG ann O (Key.call 82) [(AV.agg [(AV.own (Id.c 0)), (I a0_1), (I a0_2)])] [(Blk.sl false 1 ec0 c0)] =
  (gdK none (O (Key.call 109) [AV.t (T.lst 1 ec0 c0), AV.fn 110 [] []] []) fun l => gdK none l.head? fun x => gdK none (T.int? IntKind.i64 x) fun n => gdK (some (a0_1 == (3 : Int))) (if (0 : Int) ≤ n ∧ n < (↑c0.length : Int)
 then some () else none) fun x => gdK (some (a0_1 == (3 : Int))) c0[n.toNat]? fun l => gdK (some (a0_1 == (3 : Int))) l.head? fun x => gdK (some (a0_1 == (3 : Int))) (T.int? IntKind.i64 x) fun n => bif bif a0_1 == (3 :
 Int) then decide (n < (0 : Int)) else false then O K37n4m1 [AV.ref (Id.c 1) 0, AV.ref (Id.c 2) 0, I (↑c0.length : Int), I (0 : Int)] [Blk.sl false 1 ec0 c0, Blk.box [AV.own (Id.c 0), I a0_1, I a0_2], Blk.box [AV.t (T.emp
 true), I (0 : Int), I (0 : Int)]] else some [T.lst 1 ec0 c0, T.int IntKind.i64 a0_1, T.int IntKind.i64 a0_2]) := by kernel_rfl
theorem e40n3 (O : Orc) (ev6 : Bool) (v6 : List (List T)) (v7 : Int) (v8 : Int) (ec0 : Bool) (c0 : List (List T)) : stepO PROG ann O K40n3 [(AV.own (Id.c 0)), (AV.t (T.lst 1 ev6 v6)), (I v7), (I v8)] [(Blk.sl false 1 ec0 c0)] =
  (bif decide (v8 < v7) then gdK none (if (0 : Int) ≤ v8 ∧ v8 < (↑v6.length : Int) then some () else none) fun x => gdK none v6[v8.toNat]? fun l => gdK none l.head? fun x => gdK none (T.int? IntKind.i64 x) fun n => gdK none
 (small 8 (c0.length + [[T.int IntKind.i64 (IntKind.i64.wrap ((0 : Int) - n))]].length)) fun x => O K40n3 [AV.own (Id.c 0), AV.t (T.lst 1 ev6 v6), I v7, I (IntKind.i64.wrap (v8 + (1 : Int)))] [Blk.sl false 1 (ec0 && false)
 (c0 ++ [[T.int IntKind.i64 (IntKind.i64.wrap ((0 : Int) - n))]])] else some [T.lst 1 ec0 c0]) := by kernel_rfl
theorem e41 (O : Orc) (a0 : Int) (a1 : Int) : stepO PROG ann O (Key.call 83) [(I a0), (I a1)] [] =
  (O K41n1 [I a0, I a1] []) := by kernel_rfl
theorem e18n6 (O : Orc) (v8 : Int) (v9 : Int) (v38 : Int) (v39 : Int) (ec0_0 : Bool) (c0_0 : List (List T)) (c0_1 : Int) (c0_2 : Bool) (c0_3 : Int) (ec1_0 : Bool) (c1_0 : List (List T)) (c1_1 : Int) (c1_2 : Bool) (c1_3 : Int) (ec2_0 : Bool) (c2_1 : Int) (c2_2 : Int) (ec3 : Bool) (c3 : List (List T)) : stepO PROG ann O K18n6 [(AV.ref (Id.c 0) 0), (AV.ref (Id.c 1) 0), (AV.ref (Id.c 2) 0), (I v8), (I v9), (AV.own (Id.c 3)), (I v38), (I v39)] [(Blk.box [(AV.t (T.lst 1 ec0_0 c0_0)), (I c0_1), (B c0_2), (I c0_3)]), (Blk.box [(AV.t (T.lst 1 ec1_0 c1_0)), (I c1_1), (B c1_2), (I c1_3)]), (Blk.box [(AV.t (T.emp ec2_0)), (I c2_1), (I c2_2)]), (Blk.sl false 1 ec3 c3)] =
  (bif decide (v39 < v38) then gdK none (if (0 : Int) ≤ v39 ∧ v39 < (↑c0_0.length : Int) then some () else none) fun x => gdK none c0_0[v39.toNat]? fun l => gdK none l.head? fun x => gdK none (T.int? IntKind.i64 x) fun n =>
 gdK none (if (0 : Int) ≤ v39 ∧ v39 < (↑c1_0.length : Int) then some () else none) fun x => gdK none c1_0[v39.toNat]? fun l => gdK none l.head? fun x => gdK none (T.int? IntKind.i64 x) fun n_1 => gdK none (if (0 : Int) ≤
 v39 ∧ v39 < (↑c3.length : Int) then some () else none) fun x => gdK none (storeIn v39.toNat 0 [T.int IntKind.i64 (IntKind.i64.wrap (IntKind.i64.wrap (v9 * n) + IntKind.i64.wrap (v8 * n_1)))] c3) fun l => O K18n6 [AV.ref
 (Id.c 0) 0, AV.ref (Id.c 1) 0, AV.ref (Id.c 2) 0, I v8, I v9, AV.own (Id.c 3), I v38, I (IntKind.i64.wrap (v39 + (1 : Int)))] [Blk.box [AV.t (T.lst 1 ec0_0 c0_0), I c0_1, B c0_2, I c0_3], Blk.box [AV.t (T.lst 1 ec1_0
 c1_0), I c1_1, B c1_2, I c1_3], Blk.box [AV.t (T.emp ec2_0), I c2_1, I c2_2], Blk.sl false 1 ec3 l] else gdK none (O (Key.call 84) [AV.t (T.lst 1 ec3 c3), I (IntKind.i64.wrap (IntKind.i64.wrap (v9 * c0_1) +
 IntKind.i64.wrap (v8 * c1_1))), B (bif c0_2 then true else c1_2)] []) fun l => gdK none l.head? fun x => gdK none (T.lst? 1 x) fun p => gdK none l.tail.head? fun x => gdK none (T.int? IntKind.i64 x) fun n => gdK none
 l.tail.tail.head? fun x => gdK none (T.int? IntKind.i64 x) fun n_1 => gdK none (List.drop 3 l).head? fun x => gdK none x.bool? fun b => some [T.lst 1 p.fst p.snd, T.int IntKind.i64 n, T.int IntKind.i64 n_1, T.bool b]) := by kernel_rfl
theorem e43 (O : Orc) (a0 : Int) : stepO PROG ann O (Key.call 57) [(I a0)] [] =
  (some [T.bool (bif decide (a0 ≤ (1000000 : Int)) then decide (a0 ≥ (-1000000 : Int)) else false)]) := by kernel_rfl
theorem e75 (O : Orc) (ea0 : Bool) (a0 : List (List T)) : stepO PROG ann O (Key.call 109) [(AV.t (T.lst 1 ea0 a0)), (AV.fn 110 [] [])] [] =
  (O K75n2 [AV.t (T.lst 1 ea0 a0), AV.fn 110 [] [], I (↑a0.length : Int), I (0 : Int)] []) := by kernel_rfl
theorem e37n4 (O : Orc) (v21 : Int) (v22 : Int) (ec0 : Bool) (c0 : List (List T)) (c1_1 : Int) (c1_2 : Int) (ec2_0 : Bool) (c2_1 : Int) (c2_2 : Int) : stepO PROG ann O K37n4m1 [(AV.ref (Id.c 1) 0), (AV.ref (Id.c 2) 0), (I v21), (I v22)] [(Blk.sl false 1 ec0 c0), (Blk.box [(AV.own (Id.c 0)), (I c1_1), (I c1_2)]), (Blk.box [(AV.t (T.emp ec2_0)), (I c2_1), (I c2_2)])] =
  (bif decide (v22 < v21) then gdK none (if (0 : Int) ≤ v22 ∧ v22 < (↑c0.length : Int) then some () else none) fun x => gdK none c0[v22.toNat]? fun l => gdK none l.head? fun x => gdK none (T.int? IntKind.i64 x) fun n => gdK
 none (if (0 : Int) ≤ v22 ∧ v22 < (↑c0.length : Int) then some () else none) fun x => gdK none (storeIn v22.toNat 0 [T.int IntKind.i64 (IntKind.i64.wrap ((0 : Int) - n))] c0) fun l => O K37n4m1 [AV.ref (Id.c 1) 0, AV.ref
 (Id.c 2) 0, I v21, I (IntKind.i64.wrap (v22 + (1 : Int)))] [Blk.sl false 1 ec0 l, Blk.box [AV.own (Id.c 0), I c1_1, I c1_2], Blk.box [AV.t (T.emp ec2_0), I c2_1, I c2_2]] else some [T.lst 1 ec0 c0, T.int IntKind.i64 c1_1,
 T.int IntKind.i64 (IntKind.i64.wrap ((0 : Int) - c1_2))]) := by kernel_rfl
theorem e41n1 (O : Orc) (v0 : Int) (v1 : Int) : stepO PROG ann O K41n1 [(I v0), (I v1)] [] =
  (bif !v1 == (0 : Int) then gdK none (if v1 = (0 : Int) then none else some ()) fun x => O K41n1 [I v1, I (v0.tmod v1)] [] else some [T.int IntKind.i64 (mm true v0 (IntKind.i64.wrap ((0 : Int) - v0)))]) := by kernel_rfl
theorem e42 (O : Orc) (ea0 : Bool) (a0 : List (List T)) (a1 : Int) (a2 : Bool) : stepO PROG ann O (Key.call 84) [(AV.t (T.lst 1 ea0 a0)), (I a1), (B a2)] [] =
  (bif a2 then O K42n4 [AV.t (T.lst 1 ea0 a0), I a1, AV.ref (Id.c 0) 0, AV.ref (Id.c 1) 0] [Blk.box [AV.t (T.emp true), I (0 : Int), I (0 : Int)], Blk.box [AV.t (T.emp true), I (2 : Int), I (0 : Int)]] else O K42n4 [AV.t
 (T.lst 1 ea0 a0), I a1, AV.ref (Id.c 0) 0, AV.ref (Id.c 1) 0] [Blk.box [AV.t (T.emp true), I (0 : Int), I (0 : Int)], Blk.box [AV.t (T.emp true), I (1 : Int), I (0 : Int)]]) := by kernel_rfl
theorem e75n2 (O : Orc) (ev0 : Bool) (v0 : List (List T)) (v7 : Int) (v8 : Int) : stepO PROG ann O K75n2 [(AV.t (T.lst 1 ev0 v0)), (AV.fn 110 [] []), (I v7), (I v8)] [] =
  (bif decide (v8 < v7) then gdK none (if (0 : Int) ≤ v8 ∧ v8 < (↑v0.length : Int) then some () else none) fun x => gdK none v0[v8.toNat]? fun l => gdK none l.head? fun x => gdK none (T.int? IntKind.i64 x) fun n => gdK none
 (O (Key.call 110) [I n] []) fun l => gdK none l.head? fun x => gdK none x.bool? fun b => bif b then some [T.int IntKind.i64 v8] else O K75n2 [AV.t (T.lst 1 ev0 v0), AV.fn 110 [] [], I v7, I (IntKind.i64.wrap (v8 + (1 :
 Int)))] [] else some [T.int IntKind.i64 (-1 : Int)]) := by kernel_rfl
theorem e42n4 (O : Orc) (ev0 : Bool) (v0 : List (List T)) (v1 : Int) (ec0_0 : Bool) (c0_1 : Int) (c0_2 : Int) (ec1_0 : Bool) (c1_1 : Int) (c1_2 : Int) : stepO PROG ann O K42n4 [(AV.t (T.lst 1 ev0 v0)), (I v1), (AV.ref (Id.c 0) 0), (AV.ref (Id.c 1) 0)] [(Blk.box [(AV.t (T.emp ec0_0)), (I c0_1), (I c0_2)]), (Blk.box [(AV.t (T.emp ec1_0)), (I c1_1), (I c1_2)])] =
  (gdK (some (decide ((↑v0.length : Int) > (0 : Int)))) (if (0 : Int) ≤ IntKind.i64.wrap ((↑v0.length : Int) - (1 : Int)) ∧ IntKind.i64.wrap ((↑v0.length : Int) - (1 : Int)) < (↑v0.length : Int) then some () else none) fun x
 => gdK (some (decide ((↑v0.length : Int) > (0 : Int)))) v0[(IntKind.i64.wrap ((↑v0.length : Int) - (1 : Int))).toNat]? fun l => gdK (some (decide ((↑v0.length : Int) > (0 : Int)))) l.head? fun x => gdK (some (decide
 ((↑v0.length : Int) > (0 : Int)))) (T.int? IntKind.i64 x) fun n => bif bif decide ((↑v0.length : Int) > (0 : Int)) then n == (0 : Int) else false then gdK none (inB (0 : Int) (IntKind.i64.wrap ((↑v0.length : Int) - (1 :
 Int))) (↑v0.length : Int)) fun x => O K42n4 [AV.t (T.lst 1 ev0 (sub (0 : Int) (IntKind.i64.wrap ((↑v0.length : Int) - (1 : Int))) v0)), I v1, AV.ref (Id.c 0) 0, AV.ref (Id.c 1) 0] [Blk.box [AV.t (T.emp ec0_0), I c0_1, I
 c0_2], Blk.box [AV.t (T.emp ec1_0), I c1_1, I c1_2]] else bif (↑v0.length : Int) == (0 : Int) then gdK none (O (Key.call 38) [AV.agg [AV.t (T.lst 1 ec1_0 []), I c1_1, I (mm true (mm false v1 (1 : Int)) (-1 : Int))]] [])
 fun l => gdK none l.head? fun x => gdK none (T.lst? 1 x) fun p => gdK none l.tail.head? fun x => gdK none (T.int? IntKind.i64 x) fun n => gdK none l.tail.tail.head? fun x => gdK none (T.int? IntKind.i64 x) fun n_1 => gdK
 none (List.drop 3 l).head? fun x => gdK none (T.int? IntKind.i64 x) fun n_2 => gdK none (List.drop 3 l).tail.head? fun x => gdK none (T.int? IntKind.i64 x) fun n_3 => some [T.lst 1 p.fst p.snd, T.int IntKind.i64 n, T.int
 IntKind.i64 n_1, T.bool true] else gdK none (O (Key.call 83) [I v1, I (0 : Int)] []) fun l => gdK none l.head? fun x => gdK none (T.int? IntKind.i64 x) fun n => O K42n12 [AV.t (T.lst 1 ev0 v0), I v1, AV.ref (Id.c 0) 0,
 AV.ref (Id.c 1) 0, I n, AV.t (T.lst 1 ev0 v0), I (↑v0.length : Int), I (0 : Int)] [Blk.box [AV.t (T.emp ec0_0), I c0_1, I c0_2], Blk.box [AV.t (T.emp ec1_0), I c1_1, I c1_2]]) := by kernel_rfl
theorem e76 (O : Orc) (a0 : Int) : stepO PROG ann O (Key.call 110) [(I a0)] [] =
  (some [T.bool !a0 == (0 : Int)]) := by kernel_rfl
theorem e42n12 (O : Orc) (ev0 : Bool) (v0 : List (List T)) (v1 : Int) (v11 : Int) (ev53 : Bool) (v53 : List (List T)) (v54 : Int) (v55 : Int) (ec0_0 : Bool) (c0_1 : Int) (c0_2 : Int) (ec1_0 : Bool) (c1_1 : Int) (c1_2 : Int) : stepO PROG ann O K42n12 [(AV.t (T.lst 1 ev0 v0)), (I v1), (AV.ref (Id.c 0) 0), (AV.ref (Id.c 1) 0), (I v11), (AV.t (T.lst 1 ev53 v53)), (I v54), (I v55)] [(Blk.box [(AV.t (T.emp ec0_0)), (I c0_1), (I c0_2)]), (Blk.box [(AV.t (T.emp ec1_0)), (I c1_1), (I c1_2)])] =
  (bif decide (v55 < v54) then gdK none (if (0 : Int) ≤ v55 ∧ v55 < (↑v53.length : Int) then some () else none) fun x => gdK none v53[v55.toNat]? fun l => gdK none l.head? fun x => gdK none (T.int? IntKind.i64 x) fun n =>
 gdK none (O (Key.call 83) [I v11, I n] []) fun l => gdK none l.head? fun x => gdK none (T.int? IntKind.i64 x) fun n => O K42n12 [AV.t (T.lst 1 ev0 v0), I v1, AV.ref (Id.c 0) 0, AV.ref (Id.c 1) 0, I n, AV.t (T.lst 1 ev53
 v53), I v54, I (IntKind.i64.wrap (v55 + (1 : Int)))] [Blk.box [AV.t (T.emp ec0_0), I c0_1, I c0_2], Blk.box [AV.t (T.emp ec1_0), I c1_1, I c1_2]] else gdK none (if v11 = (0 : Int) then none else some ()) fun x => gdK none
 (O (Key.call 111) [I (IntKind.i64.wrap (v1.tdiv v11))] []) fun l => gdK none l.head? fun x => gdK none x.bool? fun b => O K42n19 [I v1, AV.ref (Id.c 0) 0, AV.ref (Id.c 1) 0, I v11, AV.fn 111 [] [], B b, AV.t (T.lst 1 ev0
 v0), I (↑v0.length : Int), I (0 : Int)] [Blk.box [AV.t (T.emp ec0_0), I c0_1, I c0_2], Blk.box [AV.own (Id.c 2), I c1_1, I c1_2], Blk.sl false 1 ec1_0 []]) := by kernel_rfl
theorem e77 (O : Orc) (a0 : Int) : stepO PROG ann O (Key.call 111) [(I a0)] [] =
  (some [T.bool (bif decide (a0 ≥ (-1000000 : Int)) then decide (a0 ≤ (1000000 : Int)) else false)]) := by kernel_rfl
theorem e42n19 (O : Orc) (v1 : Int) (v11 : Int) (v15 : Bool) (ev68 : Bool) (v68 : List (List T)) (v69 : Int) (v70 : Int) (ec0_0 : Bool) (c0_1 : Int) (c0_2 : Int) (c1_1 : Int) (c1_2 : Int) (ec2 : Bool) (c2 : List (List T)) : stepO PROG ann O K42n19 [(I v1), (AV.ref (Id.c 0) 0), (AV.ref (Id.c 1) 0), (I v11), (AV.fn 111 [] []), (B v15), (AV.t (T.lst 1 ev68 v68)), (I v69), (I v70)] [(Blk.box [(AV.t (T.emp ec0_0)), (I c0_1), (I c0_2)]), (Blk.box [(AV.own (Id.c 2)), (I c1_1), (I c1_2)]), (Blk.sl false 1 ec2 c2)] =
  (bif decide (v70 < v69) then gdK none (if (0 : Int) ≤ v70 ∧ v70 < (↑v68.length : Int) then some () else none) fun x => gdK none v68[v70.toNat]? fun l => gdK none l.head? fun x => gdK none (T.int? IntKind.i64 x) fun n =>
 gdK none (if v11 = (0 : Int) then none else some ()) fun x => gdK none (small 8 (c2.length + [[T.int IntKind.i64 (IntKind.i64.wrap (n.tdiv v11))]].length)) fun x => gdK (some v15) (if v11 = (0 : Int) then none else some
 ()) fun x => bif v15 then gdK none (O (Key.call 111) [I (IntKind.i64.wrap (n.tdiv v11))] []) fun l => gdK none l.head? fun x => gdK none x.bool? fun b => O K42n19 [I v1, AV.ref (Id.c 0) 0, AV.ref (Id.c 1) 0, I v11, AV.fn
 111 [] [], B (bif v15 then b else false), AV.t (T.lst 1 ev68 v68), I v69, I (IntKind.i64.wrap (v70 + (1 : Int)))] [Blk.box [AV.t (T.emp ec0_0), I c0_1, I c0_2], Blk.box [AV.own (Id.c 2), I c1_1, I c1_2], Blk.sl false 1
 (ec2 && false) (c2 ++ [[T.int IntKind.i64 (IntKind.i64.wrap (n.tdiv v11))]])] else O K42n19 [I v1, AV.ref (Id.c 0) 0, AV.ref (Id.c 1) 0, I v11, AV.fn 111 [] [], B (bif v15 then false else false), AV.t (T.lst 1 ev68 v68),
 I v69, I (IntKind.i64.wrap (v70 + (1 : Int)))] [Blk.box [AV.t (T.emp ec0_0), I c0_1, I c0_2], Blk.box [AV.own (Id.c 2), I c1_1, I c1_2], Blk.sl false 1 (ec2 && false) (c2 ++ [[T.int IntKind.i64 (IntKind.i64.wrap (n.tdiv
 v11))]])] else gdK none (if v11 = (0 : Int) then none else some ()) fun x => some [T.lst 1 ec2 c2, T.int IntKind.i64 c1_1, T.int IntKind.i64 (IntKind.i64.wrap (v1.tdiv v11)), T.bool v15]) := by kernel_rfl
theorem e7 (O : Orc) (er : Bool) (r : List (List T)) (n : Int) : stepO PROG ann O (Key.call 7) [AV.t (T.lst 3 er r), I n] [] =
  (bif bif decide (n < (0 : Int)) then true else decide (n > (12 : Int)) then gdK none (O (Key.call 8) [I (3 : Int), I (-1 : Int)] []) fun l => gdK none l.head? fun x => gdK none (T.int? IntKind.i64 x) fun n => gdK none
 l.tail.head? fun x => gdK none (T.int? IntKind.i64 x) fun n_1 => some [T.int IntKind.i64 n, T.int IntKind.i64 n_1] else bif decide ((↑r.length : Int) > (40 : Int)) then gdK none (O (Key.call 8) [I (2 : Int), I (0 : Int)]
 []) fun l => gdK none l.head? fun x => gdK none (T.int? IntKind.i64 x) fun n => gdK none l.tail.head? fun x => gdK none (T.int? IntKind.i64 x) fun n_1 => some [T.int IntKind.i64 n, T.int IntKind.i64 n_1] else O K7n6 [AV.t
 (T.lst 3 er r), I n, AV.ref (Id.c 0) 0, I (0 : Int)] [Blk.box [I (0 : Int), I (0 : Int)]]) := by kernel_rfl
open Go Go.Aev

noncomputable abbrev Or : Orc := orc PROG ann
abbrev ti (n : Int) : T := .int .i64 n
abbrev tb (b : Bool) : T := .bool b
abbrev o0 : AV := AV.own (Id.c 0)
abbrev o1 : AV := AV.own (Id.c 1)
abbrev r0 : AV := AV.ref (Id.c 0) 0

theorem at_drop {α : Type} {l : List α} {i : Nat} {r : α} {rest : List α} (h : l.drop i = r :: rest) : l[i]? = some r ∧ i < l.length ∧ l.drop (i + 1) = rest := by
  have hlt : i < l.length := by
    rcases Nat.lt_or_ge i l.length with g | g
    · exact g
    · rw [List.drop_eq_nil_of_le g] at h; cases h
  rw [List.drop_eq_getElem_cons hlt] at h
  simp only [List.cons.injEq] at h
  exact ⟨by rw [List.getElem?_eq_getElem hlt, h.1], hlt, h.2⟩
theorem at_end {α : Type} {l : List α} {i : Nat} (h : l.drop i = []) : l.length ≤ i := by simpa using h
def enc (l : List Int) : List (List T) := l.map fun r => [ti r]
theorem enc_len (l : List Int) : (enc l).length = l.length := by simp [enc]
theorem enc_get {l : List Int} {i : Nat} {r : Int} (h : l[i]? = some r) : (enc l)[((i : Nat) : Int).toNat]? = some [ti r] := by simp [enc, h]
abbrev lst (e : Bool) (l : List Int) : AV := AV.t (T.lst 1 e (enc l))

structure R where
  e : Bool
  of : List Int
  kd : Int
  tv : Int
  deriving Inhabited
def eR (r : R) : List T := [T.lst 1 r.e (enc r.of), ti r.kd, ti r.tv]
def eRs (l : List R) : List (List T) := l.map eR
theorem eRs_len (l : List R) : (eRs l).length = l.length := by simp [eRs]
theorem eRs_get {l : List R} {i : Nat} {r : R} (h : l[i]? = some r) : (eRs l)[((i : Nat) : Int).toNat]? = some [T.lst 1 r.e (enc r.of), ti r.kd, ti r.tv] := by simp [eRs, h, eR]
abbrev LR (e : Bool) (l : List R) : AV := AV.t (T.lst 3 e (eRs l))
theorem next (i : Nat) (h : i ≤ 100000) : IntKind.i64.wrap ((i : Int) + 1) = ((i + 1 : Nat) : Int) := by rw [wr (by omega)]; omega
theorem small_ok {bs n : Nat} (h : n ≤ 100000) : small bs n = some () := by unfold small; rw [if_pos (.inl (by unfold lim; omega))]
theorem beq_dec (a b : Int) : (a == b) = decide (a = b) := by by_cases h : a = b <;> simp [h]
theorem mulb {a b : Int} (ha : -1000000 ≤ a ∧ a ≤ 1000000) (hb : -1000000 ≤ b ∧ b ≤ 1000000) : -1000000000000 ≤ a * b ∧ a * b ≤ 1000000000000 := by
  have h1 : a.natAbs * b.natAbs ≤ 1000000 * 1000000 := Nat.mul_le_mul (by omega) (by omega)
  rw [← Int.natAbs_mul] at h1
  omega
theorem mm_max (a b : Int) : mm true a b = max a b := by simp only [mm, cond_true]; split <;> omega
theorem mm_min (a b : Int) : mm false a b = min a b := by simp only [mm, cond_false]; split <;> omega
end Go.Aev.Gen
