/-
  Equations of the functions of the heap laws.
-/
import Derived.Test.YtcjfkgkobblonaaAevStep
import Derived.Test.YtcjfkgkobblonaaHExt
import Derived.Test.YtcjfkgkobblonaaChecked
import Derived.KernelRfl
set_option linter.unusedSimpArgs false
set_option linter.unusedVariables false
namespace Go.Aev.Gen
open Go Go.Aev
noncomputable abbrev PROG := Go.Proofs.Try.prog
def ann : Ann := {
  live := (fun f r => match f, r with
    | 9, 6 => some [(1, none), (2, none), (5, none), (7, none), (19, none), (20, none), (21, none)]
    | 11, 5 => some [(1, none), (2, none), (3, none), (18, none), (19, none)]
    | 13, 2 => some [(2, none), (3, none), (4, none), (5, none), (11, none), (12, none), (13, none)]
    | 14, 7 => some [(1, none), (2, none), (4, none), (5, none), (28, none), (29, none)]
    | 15, 8 => some [(1, none), (2, none), (4, none), (5, none)]
    | 15, 13 => some [(1, none), (2, none), (4, none), (5, none), (6, none)]
    | 16, 8 => some [(1, none), (2, none), (4, none), (31, none), (32, none), (33, none)]
    | 17, 3 => some [(1, none), (2, none), (5, none), (6, none)]
    | 19, 8 => some [(1, none), (4, none), (5, none), (6, none), (8, some 1), (9, none)]
    | 20, 6 => some [(2, none), (3, none), (4, none), (6, some 1), (7, none)]
    | 24, 2 => some [(1, none), (2, none), (5, none)]
    | 28, 5 => some [(2, none), (6, none), (7, none), (8, none), (10, none), (11, none), (27, none), (28, none), (29, none)]
    | 28, 17 => some [(6, none), (7, none), (11, none), (14, some 1000001), (14, some 2000001), (15, none), (68, none), (69, none), (70, none)]
    | 29, 4 => some [(0, none), (1, none), (5, none)]
    | 30, 3 => some [(0, none), (3, none), (9, none), (10, none), (11, none)]
    | 30, 11 => some [(6, some 1), (25, none), (26, none), (27, none)]
    | 36, 3 => some [(0, none), (1, none), (2, none), (6, none), (7, none), (8, none), (9, none)]
    | 36, 12 => some [(2, none), (6, none), (7, none), (8, none), (10, some 1000001), (10, some 2000001), (11, none), (12, none), (13, none)]
    | 36, 24 => some [(2, none), (6, none), (7, none), (8, none), (10, none), (11, none), (13, none), (16, none), (17, none)]
    | 36, 33 => some [(2, none), (6, none), (7, none), (10, none), (12, none), (18, none), (19, none)]
    | 41, 1 => some [(0, none), (1, none)]
    | 43, 2 => some [(0, none), (1, none), (7, none), (8, none)]
    | 7, 16 => some [(1, none), (2, none), (6, none), (9, none), (10, none)]
    | 22, 9 => some [(2, none), (4, none), (5, none), (8, some 5000001), (9, none)]
    | 25, 4 => some [(1, none), (3, none)]
    | 25, 10 => some [(1, none), (3, none), (4, none), (5, none)]
    | 26, 3 => some [(2, none), (5, none), (6, none)]
    | 26, 6 => some [(2, none), (5, none), (6, none), (7, none)]
    | 26, 10 => some [(2, none), (5, none), (6, none), (7, none), (8, none), (9, none), (10, none), (11, none)]
    | 26, 28 => some [(2, none), (5, none), (14, none)]
    | 37, 14 => some [(0, none), (1, none), (2, none), (10, none), (80, none), (81, none), (82, none)]
    | 54, 2 => some [(0, none), (1, none), (2, none), (3, none), (4, none), (10, none), (11, none)]
    | 55, 3 => some [(3, none), (6, none), (7, none), (8, none)]
    | 66, 1 => some [(0, none), (1, none), (2, none), (3, none), (8, none)]
    | 66, 4 => some [(0, none), (1, none), (2, none), (3, none), (8, none), (9, none)]
    | _, _ => none),
  join := (fun f r => match f, r with
    | 7, 21 => some [(1, none), (2, none), (6, none), (9, some 0)]
    | _, _ => none),
  sig := (fun f => match f with
    | 28 => some ⟨[.agg [.t (.l 1), .own 1, .f (.i .i64)], .agg [.f (.i .i64), .f (.i .i64)]], []⟩
    | 10 => some ⟨[.agg [.t (.l 1), .own 1, .f (.i .i64)], .agg [.f (.i .i64), .f (.i .i64)]], []⟩
    | 42 => some ⟨[.own 1], []⟩
    | 48 => some ⟨[.own 1], []⟩
    | _ => none),
  bref := (fun f => match f with
    | 37 => some [true, false, false]
    | 38 => some [true, false]
    | 49 => some [true, false]
    | 54 => some [true, false, false, false, false]
    | 66 => some [true, false, false, false]
    | _ => none),
  bsig := (fun f m => match f with
    | 37 => ⟨[.f (.i .i64), .f .b], [.box [.t (.l 1), .t (.l 1), .f (.i .i64), .f (.i .i64), .own 1, .same 2, .own 1], .dead, .mp true [.i .i64, .i .i64] (.i .i64), .dead]⟩
    | 38 => ⟨[], [.box [.t (.l 1), .t (.l 1), .f (.i .i64), .f (.i .i64), .own 1, .same 2, .own 1], .dead, .mp true [.i .i64, .i .i64] (.i .i64), .dead]⟩
    | 49 => ⟨[], [.sl 1]⟩
    | 54 => ⟨[], [.sl 1]⟩
    | 66 => ⟨[], [.sl 1]⟩
    | _ => ⟨[], []⟩),
  wr := (fun f => match f with
    | 30 => true
    | 28 => true
    | 36 => true
    | _ => false),
  st := (fun d => match d with
    | some 10 => true
    | some 14 => true
    | some 16 => true
    | some 18 => true
    | some 22 => true
    | some 28 => true
    | _ => false),
  ld := (fun d => match d with
    | some 74 => true
    | some 25 => true
    | some 47 => true
    | some 48 => true
    | _ => false),
  ext := (fun f vals blks => match f with
    | 40 => Go.Aev.Hp.extT vals blks
    | _ => none) }
theorem hm : PROG.follows .mixedOrders = true := by kernel_rfl
noncomputable abbrev K28n5 : Key := nodeKey PROG 28 true 5 [(2, none), (6, none), (7, none), (8, none), (10, none), (11, none), (27, none), (28, none), (29, none)] (0, 0)
noncomputable abbrev K28n17 : Key := nodeKey PROG 28 true 17 [(6, none), (7, none), (11, none), (14, some 1000001), (14, some 2000001), (15, none), (68, none), (69, none), (70, none)] (0, 0)
noncomputable abbrev K41n1 : Key := nodeKey PROG 41 true 1 [(0, none), (1, none)] (0, 0)
noncomputable abbrev K36n3 : Key := nodeKey PROG 36 true 3 [(0, none), (1, none), (2, none), (6, none), (7, none), (8, none), (9, none)] (0, 0)
noncomputable abbrev K36n12 : Key := nodeKey PROG 36 true 12 [(2, none), (6, none), (7, none), (8, none), (10, some 1000001), (10, some 2000001), (11, none), (12, none), (13, none)] (0, 0)
noncomputable abbrev K36n24 : Key := nodeKey PROG 36 true 24 [(2, none), (6, none), (7, none), (8, none), (10, none), (11, none), (13, none), (16, none), (17, none)] (0, 0)
noncomputable abbrev K36n33 : Key := nodeKey PROG 36 true 33 [(2, none), (6, none), (7, none), (10, none), (12, none), (18, none), (19, none)] (0, 0)
noncomputable abbrev K11n5 : Key := nodeKey PROG 11 true 5 [(1, none), (2, none), (3, none), (18, none), (19, none)] (0, 0)
noncomputable abbrev K20n6 : Key := nodeKey PROG 20 true 6 [(2, none), (3, none), (4, none), (6, some 1), (7, none)] (0, 0)
noncomputable abbrev K14n7 : Key := nodeKey PROG 14 true 7 [(1, none), (2, none), (4, none), (5, none), (28, none), (29, none)] (0, 0)
noncomputable abbrev K19n8 : Key := nodeKey PROG 19 true 8 [(1, none), (4, none), (5, none), (6, none), (8, some 1), (9, none)] (0, 0)
noncomputable abbrev K15n8 : Key := nodeKey PROG 15 true 8 [(1, none), (2, none), (4, none), (5, none)] (0, 0)
noncomputable abbrev K15n13 : Key := nodeKey PROG 15 true 13 [(1, none), (2, none), (4, none), (5, none), (6, none)] (0, 0)
noncomputable abbrev K16n8 : Key := nodeKey PROG 16 true 8 [(1, none), (2, none), (4, none), (31, none), (32, none), (33, none)] (0, 0)
noncomputable abbrev K43n2 : Key := nodeKey PROG 43 true 2 [(0, none), (1, none), (7, none), (8, none)] (0, 0)
noncomputable abbrev K13n2 : Key := nodeKey PROG 13 true 2 [(2, none), (3, none), (4, none), (5, none), (11, none), (12, none), (13, none)] (0, 0)
noncomputable abbrev K9n6 : Key := nodeKey PROG 9 true 6 [(1, none), (2, none), (5, none), (7, none), (19, none), (20, none), (21, none)] (0, 0)
noncomputable abbrev K17n3 : Key := nodeKey PROG 17 true 3 [(1, none), (2, none), (5, none), (6, none)] (0, 0)
noncomputable abbrev K29n4 : Key := nodeKey PROG 29 true 4 [(0, none), (1, none), (5, none)] (0, 0)
noncomputable abbrev K30n3 : Key := nodeKey PROG 30 true 3 [(0, none), (3, none), (9, none), (10, none), (11, none)] (0, 0)
noncomputable abbrev K30n11 : Key := nodeKey PROG 30 true 11 [(6, some 1), (25, none), (26, none), (27, none)] (0, 0)
theorem e28 (O : Orc) (el : Bool) (l : List (List T)) (eo : Bool) (o : List (List T)) (a : Int) : stepO PROG ann O (Key.call 28) [AV.t (T.lst 1 el l), AV.t (T.lst 1 eo o), I a] [] =
  (gdK none (O (Key.call 40) [AV.t (T.lst 1 el l), AV.t (T.lst 1 eo o)] []) fun l => gdK none l.head? fun x => gdK none (T.lst? 2 x) fun p => gdK none l.tail.head? fun x => gdK none (T.int? IntKind.i64 x) fun n => O K28n5 [I
 (IntKind.i64.wrap (a - n)), AV.ref (Id.c 0) 0, AV.ref (Id.c 1) 0, AV.t (T.lst 2 p.fst p.snd), I (0 : Int), I (0 : Int), AV.t (T.lst 2 p.fst p.snd), I (↑p.snd.length : Int), I (0 : Int)] [Blk.box [AV.t (T.emp true), AV.t
 (T.emp true), I (0 : Int)], Blk.box [I (0 : Int), I (0 : Int)]]) := by kernel_rfl
theorem e28n5 (O : Orc) (v2 : Int) (ev8 : Bool) (v8 : List (List T)) (v10 : Int) (v11 : Int) (ev27 : Bool) (v27 : List (List T)) (v28 : Int) (v29 : Int) (ec0_0 : Bool) (ec0_1 : Bool) (c0_2 : Int) (c1_0 : Int) (c1_1 : Int) : stepO PROG ann O K28n5 [(I v2), (AV.ref (Id.c 0) 0), (AV.ref (Id.c 1) 0), (AV.t (T.lst 2 ev8 v8)), (I v10), (I v11), (AV.t (T.lst 2 ev27 v27)), (I v28), (I v29)] [(Blk.box [(AV.t (T.emp ec0_0)), (AV.t (T.emp ec0_1)), (I c0_2)]), (Blk.box [(I c1_0), (I c1_1)])] =
  (bif decide (v29 < v28) then gdK none (if (0 : Int) ≤ v29 ∧ v29 < (↑v27.length : Int) then some () else none) fun x => gdK none v27[v29.toNat]? fun l => gdK none l.head? fun x => gdK none l.tail.head? fun x_1 => gdK none
 (T.int? IntKind.i64 x) fun n => gdK none (T.int? IntKind.i64 x_1) fun n => gdK none (O (Key.call 41) [I n, I v11] []) fun l => gdK none l.head? fun x => gdK none (T.int? IntKind.i64 x) fun n_1 => O K28n5 [I v2, AV.ref
 (Id.c 0) 0, AV.ref (Id.c 1) 0, AV.t (T.lst 2 ev8 v8), I (IntKind.i64.wrap (v10 + n)), I n_1, AV.t (T.lst 2 ev27 v27), I v28, I (IntKind.i64.wrap (v29 + (1 : Int)))] [Blk.box [AV.t (T.emp ec0_0), AV.t (T.emp ec0_1), I
 c0_2], Blk.box [I c1_0, I c1_1]] else bif decide (v2 ≤ (0 : Int)) then some [T.emp true, T.emp true, T.int IntKind.i64 (0 : Int), T.int IntKind.i64 (0 : Int), T.int IntKind.i64 (0 : Int)] else bif decide (v10 < v2) then
 some [T.emp true, T.emp true, T.int IntKind.i64 (1 : Int), T.int IntKind.i64 (0 : Int), T.int IntKind.i64 (0 : Int)] else gdK none (if v11 = (0 : Int) then none else some ()) fun x => O K28n17 [AV.ref (Id.c 0) 0, AV.ref
 (Id.c 1) 0, I v11, AV.ref (Id.c 2) 0, AV.ref (Id.c 2) 0, AV.t (T.bool (bif decide ((↑v8.length : Int) > (24 : Int)) then true else decide (IntKind.i64.wrap ((IntKind.i64.wrap (IntKind.i64.wrap (v2 + v11) - (1 :
 Int))).tdiv v11) > (1000000 : Int)))), AV.t (T.lst 2 ev8 v8), I (↑v8.length : Int), I (0 : Int)] [Blk.box [AV.t (T.emp ec0_0), AV.t (T.emp ec0_1), I c0_2], Blk.box [I c1_0, I c1_1], Blk.box [AV.own (Id.c 3), AV.own (Id.c
 4), AV.t (T.int IntKind.i64 (IntKind.i64.wrap ((IntKind.i64.wrap (IntKind.i64.wrap (v2 + v11) - (1 : Int))).tdiv v11)))], Blk.sl false 1 true [], Blk.sl false 1 true []]) := by kernel_rfl
theorem e41 (O : Orc) (a0 : Int) (a1 : Int) : stepO PROG ann O (Key.call 41) [(I a0), (I a1)] [] =
  (O K41n1 [I a0, I a1] []) := by kernel_rfl
theorem e28n17 (O : Orc) (v11 : Int) (v15 : Bool) (ev68 : Bool) (v68 : List (List T)) (v69 : Int) (v70 : Int) (ec0_0 : Bool) (ec0_1 : Bool) (c0_2 : Int) (c1_0 : Int) (c1_1 : Int) (c2_2 : Int) (ec3 : Bool) (c3 : List (List T)) (ec4 : Bool) (c4 : List (List T)) : stepO PROG ann O K28n17 [(AV.ref (Id.c 0) 0), (AV.ref (Id.c 1) 0), (I v11), (AV.ref (Id.c 2) 0), (AV.ref (Id.c 2) 0), (B v15), (AV.t (T.lst 2 ev68 v68)), (I v69), (I v70)] [(Blk.box [(AV.t (T.emp ec0_0)), (AV.t (T.emp ec0_1)), (I c0_2)]), (Blk.box [(I c1_0), (I c1_1)]), (Blk.box [(AV.own (Id.c 3)), (AV.own (Id.c 4)), (I c2_2)]), (Blk.sl false 1 ec3 c3), (Blk.sl false 1 ec4 c4)] =
  (bif decide (v70 < v69) then gdK none (if (0 : Int) ≤ v70 ∧ v70 < (↑v68.length : Int) then some () else none) fun x => gdK none v68[v70.toNat]? fun l => gdK none l.head? fun x => gdK none l.tail.head? fun x_1 => gdK none
 (T.int? IntKind.i64 x) fun n => gdK none (T.int? IntKind.i64 x_1) fun n_1 => gdK none (small 8 (c3.length + [[T.int IntKind.i64 n]].length)) fun x => gdK none (if v11 = (0 : Int) then none else some ()) fun x => gdK none
 (small 8 (c4.length + [[T.int IntKind.i64 (IntKind.i64.wrap (n_1.tdiv v11))]].length)) fun x => gdK (some !v15) (if v11 = (0 : Int) then none else some ()) fun x => O K28n17 [AV.ref (Id.c 0) 0, AV.ref (Id.c 1) 0, I v11,
 AV.ref (Id.c 2) 0, AV.ref (Id.c 2) 0, AV.t (T.bool (bif v15 then true else decide (IntKind.i64.wrap (n_1.tdiv v11) > (1000000 : Int)))), AV.t (T.lst 2 ev68 v68), I v69, I (IntKind.i64.wrap (v70 + (1 : Int)))] [Blk.box
 [AV.t (T.emp ec0_0), AV.t (T.emp ec0_1), I c0_2], Blk.box [I c1_0, I c1_1], Blk.box [AV.own (Id.c 3), AV.own (Id.c 4), I c2_2], Blk.sl false 1 (ec3 && false) (c3 ++ [[T.int IntKind.i64 n]]), Blk.sl false 1 (ec4 && false)
 (c4 ++ [[T.int IntKind.i64 (IntKind.i64.wrap (n_1.tdiv v11))]])] else bif v15 then some [T.emp true, T.emp true, T.int IntKind.i64 (0 : Int), T.int IntKind.i64 (10 : Int), T.int IntKind.i64 (0 : Int)] else some [T.lst 1
 ec3 c3, T.lst 1 ec4 c4, T.int IntKind.i64 c2_2, T.int IntKind.i64 (0 : Int), T.int IntKind.i64 (0 : Int)]) := by kernel_rfl
theorem e41n1 (O : Orc) (v0 : Int) (v1 : Int) : stepO PROG ann O K41n1 [(I v0), (I v1)] [] =
  (bif !v1 == (0 : Int) then gdK none (if v1 = (0 : Int) then none else some ()) fun x => O K41n1 [I v1, I (v0.tmod v1)] [] else some [T.int IntKind.i64 v0]) := by kernel_rfl
theorem e36 (O : Orc) (el : Bool) (l : List (List T)) (eo : Bool) (o : List (List T)) (a : Int) : stepO PROG ann O (Key.call 36) [AV.t (T.lst 1 el l), AV.t (T.lst 1 eo o), I a] [] =
  (O K36n3 [AV.t (T.lst 1 el l), AV.t (T.lst 1 eo o), I a, AV.ref (Id.c 0) 0, AV.ref (Id.c 1) 0, AV.own (Id.c 2), I (0 : Int)] [Blk.box [AV.t (T.emp true), AV.t (T.emp true), I (0 : Int)], Blk.box [I (0 : Int), I (0 : Int)],
 Blk.sl false 1 false [[T.int IntKind.i64 (0 : Int)], [T.int IntKind.i64 (0 : Int)], [T.int IntKind.i64 (0 : Int)], [T.int IntKind.i64 (0 : Int)], [T.int IntKind.i64 (0 : Int)], [T.int IntKind.i64 (0 : Int)], [T.int
 IntKind.i64 (0 : Int)], [T.int IntKind.i64 (0 : Int)], [T.int IntKind.i64 (0 : Int)], [T.int IntKind.i64 (0 : Int)], [T.int IntKind.i64 (0 : Int)], [T.int IntKind.i64 (0 : Int)], [T.int IntKind.i64 (0 : Int)], [T.int
 IntKind.i64 (0 : Int)], [T.int IntKind.i64 (0 : Int)], [T.int IntKind.i64 (0 : Int)], [T.int IntKind.i64 (0 : Int)], [T.int IntKind.i64 (0 : Int)], [T.int IntKind.i64 (0 : Int)], [T.int IntKind.i64 (0 : Int)], [T.int
 IntKind.i64 (0 : Int)], [T.int IntKind.i64 (0 : Int)], [T.int IntKind.i64 (0 : Int)], [T.int IntKind.i64 (0 : Int)], [T.int IntKind.i64 (0 : Int)], [T.int IntKind.i64 (0 : Int)], [T.int IntKind.i64 (0 : Int)], [T.int
 IntKind.i64 (0 : Int)], [T.int IntKind.i64 (0 : Int)], [T.int IntKind.i64 (0 : Int)], [T.int IntKind.i64 (0 : Int)], [T.int IntKind.i64 (0 : Int)], [T.int IntKind.i64 (0 : Int)], [T.int IntKind.i64 (0 : Int)], [T.int
 IntKind.i64 (0 : Int)], [T.int IntKind.i64 (0 : Int)], [T.int IntKind.i64 (0 : Int)], [T.int IntKind.i64 (0 : Int)], [T.int IntKind.i64 (0 : Int)], [T.int IntKind.i64 (0 : Int)], [T.int IntKind.i64 (0 : Int)], [T.int
 IntKind.i64 (0 : Int)], [T.int IntKind.i64 (0 : Int)], [T.int IntKind.i64 (0 : Int)], [T.int IntKind.i64 (0 : Int)], [T.int IntKind.i64 (0 : Int)], [T.int IntKind.i64 (0 : Int)], [T.int IntKind.i64 (0 : Int)], [T.int
 IntKind.i64 (0 : Int)], [T.int IntKind.i64 (0 : Int)], [T.int IntKind.i64 (0 : Int)], [T.int IntKind.i64 (0 : Int)], [T.int IntKind.i64 (0 : Int)], [T.int IntKind.i64 (0 : Int)], [T.int IntKind.i64 (0 : Int)], [T.int
 IntKind.i64 (0 : Int)], [T.int IntKind.i64 (0 : Int)], [T.int IntKind.i64 (0 : Int)], [T.int IntKind.i64 (0 : Int)], [T.int IntKind.i64 (0 : Int)], [T.int IntKind.i64 (0 : Int)], [T.int IntKind.i64 (0 : Int)], [T.int
 IntKind.i64 (0 : Int)], [T.int IntKind.i64 (0 : Int)], [T.int IntKind.i64 (0 : Int)], [T.int IntKind.i64 (0 : Int)], [T.int IntKind.i64 (0 : Int)], [T.int IntKind.i64 (0 : Int)], [T.int IntKind.i64 (0 : Int)], [T.int
 IntKind.i64 (0 : Int)], [T.int IntKind.i64 (0 : Int)], [T.int IntKind.i64 (0 : Int)], [T.int IntKind.i64 (0 : Int)], [T.int IntKind.i64 (0 : Int)], [T.int IntKind.i64 (0 : Int)], [T.int IntKind.i64 (0 : Int)], [T.int
 IntKind.i64 (0 : Int)], [T.int IntKind.i64 (0 : Int)], [T.int IntKind.i64 (0 : Int)], [T.int IntKind.i64 (0 : Int)], [T.int IntKind.i64 (0 : Int)], [T.int IntKind.i64 (0 : Int)], [T.int IntKind.i64 (0 : Int)], [T.int
 IntKind.i64 (0 : Int)], [T.int IntKind.i64 (0 : Int)], [T.int IntKind.i64 (0 : Int)], [T.int IntKind.i64 (0 : Int)], [T.int IntKind.i64 (0 : Int)], [T.int IntKind.i64 (0 : Int)], [T.int IntKind.i64 (0 : Int)], [T.int
 IntKind.i64 (0 : Int)], [T.int IntKind.i64 (0 : Int)], [T.int IntKind.i64 (0 : Int)], [T.int IntKind.i64 (0 : Int)], [T.int IntKind.i64 (0 : Int)], [T.int IntKind.i64 (0 : Int)], [T.int IntKind.i64 (0 : Int)], [T.int
 IntKind.i64 (0 : Int)], [T.int IntKind.i64 (0 : Int)], [T.int IntKind.i64 (0 : Int)], [T.int IntKind.i64 (0 : Int)], [T.int IntKind.i64 (0 : Int)], [T.int IntKind.i64 (0 : Int)], [T.int IntKind.i64 (0 : Int)], [T.int
 IntKind.i64 (0 : Int)], [T.int IntKind.i64 (0 : Int)], [T.int IntKind.i64 (0 : Int)], [T.int IntKind.i64 (0 : Int)], [T.int IntKind.i64 (0 : Int)], [T.int IntKind.i64 (0 : Int)], [T.int IntKind.i64 (0 : Int)], [T.int
 IntKind.i64 (0 : Int)], [T.int IntKind.i64 (0 : Int)], [T.int IntKind.i64 (0 : Int)], [T.int IntKind.i64 (0 : Int)], [T.int IntKind.i64 (0 : Int)], [T.int IntKind.i64 (0 : Int)], [T.int IntKind.i64 (0 : Int)], [T.int
 IntKind.i64 (0 : Int)], [T.int IntKind.i64 (0 : Int)], [T.int IntKind.i64 (0 : Int)]]]) := by kernel_rfl
theorem e36n3 (O : Orc) (ev0 : Bool) (v0 : List (List T)) (ev1 : Bool) (v1 : List (List T)) (v2 : Int) (v9 : Int) (ec0_0 : Bool) (ec0_1 : Bool) (c0_2 : Int) (c1_0 : Int) (c1_1 : Int) (ec2 : Bool) (c2 : List (List T)) : stepO PROG ann O K36n3 [(AV.t (T.lst 1 ev0 v0)), (AV.t (T.lst 1 ev1 v1)), (I v2), (AV.ref (Id.c 0) 0), (AV.ref (Id.c 1) 0), (AV.own (Id.c 2)), (I v9)] [(Blk.box [(AV.t (T.emp ec0_0)), (AV.t (T.emp ec0_1)), (I c0_2)]), (Blk.box [(I c1_0), (I c1_1)]), (Blk.sl false 1 ec2 c2)] =
  (bif decide (v9 < (↑v0.length : Int)) then gdK none (if (0 : Int) ≤ v9 ∧ v9 < (↑v0.length : Int) then some () else none) fun x => gdK none v0[v9.toNat]? fun l => gdK none l.head? fun x => gdK none (T.int? IntKind.i64 x)
 fun n => bif decide (n > (0 : Int)) then gdK none (if (0 : Int) ≤ v9 ∧ v9 < (↑v0.length : Int) then some () else none) fun x => gdK none v0[v9.toNat]? fun l => gdK none l.head? fun x => gdK none (T.int? IntKind.i64 x) fun
 n => gdK none (if (0 : Int) ≤ v9 ∧ v9 < (↑v0.length : Int) then some () else none) fun x => gdK none v0[v9.toNat]? fun l => gdK none l.head? fun x => gdK none (T.int? IntKind.i64 x) fun n_1 => gdK none (if (0 : Int) ≤ n_1
 ∧ n_1 < (↑c2.length : Int) then some () else none) fun x => gdK none c2[n_1.toNat]? fun l => gdK none l.head? fun x => gdK none (T.int? IntKind.i64 x) fun n_2 => gdK none (if (0 : Int) ≤ v9 ∧ v9 < (↑v1.length : Int) then
 some () else none) fun x => gdK none v1[v9.toNat]? fun l => gdK none l.head? fun x => gdK none (T.int? IntKind.i64 x) fun n_3 => gdK none (if (0 : Int) ≤ n ∧ n < (↑c2.length : Int) then some () else none) fun x => gdK
 none (storeIn n.toNat 0 [T.int IntKind.i64 (IntKind.i64.wrap (n_2 + n_3))] c2) fun l => O K36n3 [AV.t (T.lst 1 ev0 v0), AV.t (T.lst 1 ev1 v1), I v2, AV.ref (Id.c 0) 0, AV.ref (Id.c 1) 0, AV.own (Id.c 2), I
 (IntKind.i64.wrap (v9 + (1 : Int)))] [Blk.box [AV.t (T.emp ec0_0), AV.t (T.emp ec0_1), I c0_2], Blk.box [I c1_0, I c1_1], Blk.sl false 1 ec2 l] else gdK none (if (0 : Int) ≤ v9 ∧ v9 < (↑v0.length : Int) then some () else
 none) fun x => gdK none v0[v9.toNat]? fun l => gdK none l.head? fun x => gdK none (T.int? IntKind.i64 x) fun n => gdK none (if (0 : Int) ≤ v9 ∧ v9 < (↑v0.length : Int) then some () else none) fun x => gdK none
 v0[v9.toNat]? fun l => gdK none l.head? fun x => gdK none (T.int? IntKind.i64 x) fun n_1 => gdK none (if (0 : Int) ≤ IntKind.i64.wrap ((0 : Int) - n_1) ∧ IntKind.i64.wrap ((0 : Int) - n_1) < (↑c2.length : Int) then some
 () else none) fun x => gdK none c2[(IntKind.i64.wrap ((0 : Int) - n_1)).toNat]? fun l => gdK none l.head? fun x => gdK none (T.int? IntKind.i64 x) fun n_2 => gdK none (if (0 : Int) ≤ v9 ∧ v9 < (↑v1.length : Int) then some
 () else none) fun x => gdK none v1[v9.toNat]? fun l => gdK none l.head? fun x => gdK none (T.int? IntKind.i64 x) fun n_3 => gdK none (if (0 : Int) ≤ IntKind.i64.wrap ((0 : Int) - n) ∧ IntKind.i64.wrap ((0 : Int) - n) <
 (↑c2.length : Int) then some () else none) fun x => gdK none (storeIn (IntKind.i64.wrap ((0 : Int) - n)).toNat 0 [T.int IntKind.i64 (IntKind.i64.wrap (n_2 - n_3))] c2) fun l => gdK none (if (0 : Int) ≤ v9 ∧ v9 <
 (↑v1.length : Int) then some () else none) fun x => gdK none v1[v9.toNat]? fun l_1 => gdK none l_1.head? fun x => gdK none (T.int? IntKind.i64 x) fun n => O K36n3 [AV.t (T.lst 1 ev0 v0), AV.t (T.lst 1 ev1 v1), I
 (IntKind.i64.wrap (v2 - n)), AV.ref (Id.c 0) 0, AV.ref (Id.c 1) 0, AV.own (Id.c 2), AV.t (T.int IntKind.i64 (IntKind.i64.wrap (v9 + (1 : Int))))] [Blk.box [AV.t (T.emp ec0_0), AV.t (T.emp ec0_1), I c0_2], Blk.box [I c1_0,
 I c1_1], Blk.sl false 1 ec2 l] else O K36n12 [I v2, AV.ref (Id.c 0) 0, AV.ref (Id.c 1) 0, AV.own (Id.c 2), AV.ref (Id.c 3) 0, AV.ref (Id.c 3) 0, I (0 : Int), I (0 : Int), I (1 : Int)] [Blk.box [AV.t (T.emp ec0_0), AV.t
 (T.emp ec0_1), I c0_2], Blk.box [I c1_0, I c1_1], Blk.sl false 1 ec2 c2, Blk.box [AV.own (Id.c 4), AV.own (Id.c 5), I (0 : Int)], Blk.sl false 1 true [], Blk.sl false 1 true []]) := by kernel_rfl
theorem e36n12 (O : Orc) (v2 : Int) (v11 : Int) (v12 : Int) (v13 : Int) (ec0_0 : Bool) (ec0_1 : Bool) (c0_2 : Int) (c1_0 : Int) (c1_1 : Int) (ec2 : Bool) (c2 : List (List T)) (c3_2 : Int) (ec4 : Bool) (c4 : List (List T)) (ec5 : Bool) (c5 : List (List T)) : stepO PROG ann O K36n12 [(I v2), (AV.ref (Id.c 0) 0), (AV.ref (Id.c 1) 0), (AV.own (Id.c 2)), (AV.ref (Id.c 3) 0), (AV.ref (Id.c 3) 0), (I v11), (I v12), (I v13)] [(Blk.box [(AV.t (T.emp ec0_0)), (AV.t (T.emp ec0_1)), (I c0_2)]), (Blk.box [(I c1_0), (I c1_1)]), (Blk.sl false 1 ec2 c2), (Blk.box [(AV.own (Id.c 4)), (AV.own (Id.c 5)), (I c3_2)]), (Blk.sl false 1 ec4 c4), (Blk.sl false 1 ec5 c5)] =
  (bif decide (v13 ≤ (120 : Int)) then gdK none (if (0 : Int) ≤ v13 ∧ v13 < (↑c2.length : Int) then some () else none) fun x => gdK none c2[v13.toNat]? fun l => gdK none l.head? fun x => gdK none (T.int? IntKind.i64 x) fun n
 => bif n == (0 : Int) then O K36n12 [I v2, AV.ref (Id.c 0) 0, AV.ref (Id.c 1) 0, AV.own (Id.c 2), AV.ref (Id.c 3) 0, AV.ref (Id.c 3) 0, I v11, I v12, I (IntKind.i64.wrap (v13 + (1 : Int)))] [Blk.box [AV.t (T.emp ec0_0),
 AV.t (T.emp ec0_1), I c0_2], Blk.box [I c1_0, I c1_1], Blk.sl false 1 ec2 c2, Blk.box [AV.own (Id.c 4), AV.own (Id.c 5), I c3_2], Blk.sl false 1 ec4 c4, Blk.sl false 1 ec5 c5] else bif decide (n < (0 : Int)) then gdK none
 (small 8 (c4.length + [[T.int IntKind.i64 (IntKind.i64.wrap ((0 : Int) - v13))]].length)) fun x => gdK none (small 8 (c5.length + [[T.int IntKind.i64 (IntKind.i64.wrap ((0 : Int) - n))]].length)) fun x => O K36n24 [I
 (IntKind.i64.wrap (v2 + IntKind.i64.wrap ((0 : Int) - n))), AV.ref (Id.c 0) 0, AV.ref (Id.c 1) 0, AV.own (Id.c 2), AV.ref (Id.c 3) 0, I (IntKind.i64.wrap (v11 + IntKind.i64.wrap ((0 : Int) - n))), I v13, I v12, I
 (IntKind.i64.wrap ((0 : Int) - n))] [Blk.box [AV.t (T.emp ec0_0), AV.t (T.emp ec0_1), I c0_2], Blk.box [I c1_0, I c1_1], Blk.sl false 1 ec2 c2, Blk.box [AV.own (Id.c 4), AV.own (Id.c 5), I c3_2], Blk.sl false 1 (ec4 &&
 false) (c4 ++ [[T.int IntKind.i64 (IntKind.i64.wrap ((0 : Int) - v13))]]), Blk.sl false 1 (ec5 && false) (c5 ++ [[T.int IntKind.i64 (IntKind.i64.wrap ((0 : Int) - n))]])] else gdK none (small 8 (c4.length + [[T.int
 IntKind.i64 v13]].length)) fun x => gdK none (small 8 (c5.length + [[T.int IntKind.i64 n]].length)) fun x => O K36n24 [I v2, AV.ref (Id.c 0) 0, AV.ref (Id.c 1) 0, AV.own (Id.c 2), AV.ref (Id.c 3) 0, I (IntKind.i64.wrap
 (v11 + n)), I v13, I v12, I n] [Blk.box [AV.t (T.emp ec0_0), AV.t (T.emp ec0_1), I c0_2], Blk.box [I c1_0, I c1_1], Blk.sl false 1 ec2 c2, Blk.box [AV.own (Id.c 4), AV.own (Id.c 5), I c3_2], Blk.sl false 1 (ec4 && false)
 (c4 ++ [[T.int IntKind.i64 v13]]), Blk.sl false 1 (ec5 && false) (c5 ++ [[T.int IntKind.i64 n]])] else bif decide (v2 ≤ (0 : Int)) then some [T.emp true, T.emp true, T.int IntKind.i64 (0 : Int), T.int IntKind.i64 (0 :
 Int), T.int IntKind.i64 (0 : Int)] else bif decide (v11 < v2) then some [T.emp true, T.emp true, T.int IntKind.i64 (1 : Int), T.int IntKind.i64 (0 : Int), T.int IntKind.i64 (0 : Int)] else O K36n33 [I v2, AV.ref (Id.c 0)
 0, AV.ref (Id.c 1) 0, AV.ref (Id.c 2) 0, I v12, B (decide ((↑c4.length : Int) ≤ (24 : Int))), I (0 : Int)] [Blk.box [AV.t (T.emp ec0_0), AV.t (T.emp ec0_1), I c0_2], Blk.box [I c1_0, I c1_1], Blk.box [AV.own (Id.c 3),
 AV.own (Id.c 4), I c3_2], Blk.sl false 1 ec4 c4, Blk.sl false 1 ec5 c5]) := by kernel_rfl
theorem e36n24 (O : Orc) (v2 : Int) (v11 : Int) (v13 : Int) (v16 : Int) (v17 : Int) (ec0_0 : Bool) (ec0_1 : Bool) (c0_2 : Int) (c1_0 : Int) (c1_1 : Int) (ec2 : Bool) (c2 : List (List T)) (c3_2 : Int) (ec4 : Bool) (c4 : List (List T)) (ec5 : Bool) (c5 : List (List T)) : stepO PROG ann O K36n24 [(I v2), (AV.ref (Id.c 0) 0), (AV.ref (Id.c 1) 0), (AV.own (Id.c 2)), (AV.ref (Id.c 3) 0), (I v11), (I v13), (I v16), (I v17)] [(Blk.box [(AV.t (T.emp ec0_0)), (AV.t (T.emp ec0_1)), (I c0_2)]), (Blk.box [(I c1_0), (I c1_1)]), (Blk.sl false 1 ec2 c2), (Blk.box [(AV.own (Id.c 4)), (AV.own (Id.c 5)), (I c3_2)]), (Blk.sl false 1 ec4 c4), (Blk.sl false 1 ec5 c5)] =
  (bif decide (v17 > (0 : Int)) then gdK none (if v17 = (0 : Int) then none else some ()) fun x => O K36n24 [I v2, AV.ref (Id.c 0) 0, AV.ref (Id.c 1) 0, AV.own (Id.c 2), AV.ref (Id.c 3) 0, I v11, I v13, I v17, I (v16.tmod
 v17)] [Blk.box [AV.t (T.emp ec0_0), AV.t (T.emp ec0_1), I c0_2], Blk.box [I c1_0, I c1_1], Blk.sl false 1 ec2 c2, Blk.box [AV.own (Id.c 4), AV.own (Id.c 5), I c3_2], Blk.sl false 1 ec4 c4, Blk.sl false 1 ec5 c5] else O
 K36n12 [I v2, AV.ref (Id.c 0) 0, AV.ref (Id.c 1) 0, AV.own (Id.c 2), AV.ref (Id.c 3) 0, AV.ref (Id.c 3) 0, I v11, I v16, I (IntKind.i64.wrap (v13 + (1 : Int)))] [Blk.box [AV.t (T.emp ec0_0), AV.t (T.emp ec0_1), I c0_2],
 Blk.box [I c1_0, I c1_1], Blk.sl false 1 ec2 c2, Blk.box [AV.own (Id.c 4), AV.own (Id.c 5), I c3_2], Blk.sl false 1 ec4 c4, Blk.sl false 1 ec5 c5]) := by kernel_rfl
theorem e36n33 (O : Orc) (v2 : Int) (v12 : Int) (v18 : Bool) (v19 : Int) (ec0_0 : Bool) (ec0_1 : Bool) (c0_2 : Int) (c1_0 : Int) (c1_1 : Int) (c2_2 : Int) (ec3 : Bool) (c3 : List (List T)) (ec4 : Bool) (c4 : List (List T)) : stepO PROG ann O K36n33 [(I v2), (AV.ref (Id.c 0) 0), (AV.ref (Id.c 1) 0), (AV.ref (Id.c 2) 0), (I v12), (B v18), (I v19)] [(Blk.box [(AV.t (T.emp ec0_0)), (AV.t (T.emp ec0_1)), (I c0_2)]), (Blk.box [(I c1_0), (I c1_1)]), (Blk.box [(AV.own (Id.c 3)), (AV.own (Id.c 4)), (I c2_2)]), (Blk.sl false 1 ec3 c3), (Blk.sl false 1 ec4 c4)] =
  (bif decide (v19 < (↑c4.length : Int)) then gdK none (if (0 : Int) ≤ v19 ∧ v19 < (↑c4.length : Int) then some () else none) fun x => gdK none c4[v19.toNat]? fun l => gdK none l.head? fun x => gdK none (T.int? IntKind.i64
 x) fun n => gdK none (if v12 = (0 : Int) then none else some ()) fun x => gdK none (if (0 : Int) ≤ v19 ∧ v19 < (↑c4.length : Int) then some () else none) fun x => gdK none (storeIn v19.toNat 0 [T.int IntKind.i64
 (IntKind.i64.wrap (n.tdiv v12))] c4) fun l => gdK (some v18) (if (0 : Int) ≤ v19 ∧ v19 < (↑l.length : Int) then some () else none) fun x => gdK (some v18) l[v19.toNat]? fun l_1 => gdK (some v18) l_1.head? fun x => gdK
 (some v18) (T.int? IntKind.i64 x) fun n => O K36n33 [I v2, AV.ref (Id.c 0) 0, AV.ref (Id.c 1) 0, AV.ref (Id.c 2) 0, I v12, B (bif v18 then decide (n ≤ (1000000 : Int)) else false), I (IntKind.i64.wrap (v19 + (1 : Int)))]
 [Blk.box [AV.t (T.emp ec0_0), AV.t (T.emp ec0_1), I c0_2], Blk.box [I c1_0, I c1_1], Blk.box [AV.own (Id.c 3), AV.own (Id.c 4), I c2_2], Blk.sl false 1 ec3 c3, Blk.sl false 1 ec4 l] else gdK none (if v12 = (0 : Int) then
 none else some ()) fun x => bif bif !v18 then true else decide (IntKind.i64.wrap ((IntKind.i64.wrap (IntKind.i64.wrap (v2 + v12) - (1 : Int))).tdiv v12) > (1000000 : Int)) then gdK none (O (Key.call 23) [I (10 : Int), I
 (0 : Int)] []) fun l => gdK none l.head? fun x => gdK none (T.int? IntKind.i64 x) fun n => gdK none l.tail.head? fun x => gdK none (T.int? IntKind.i64 x) fun n_1 => some [T.emp true, T.emp true, T.int IntKind.i64 (0 :
 Int), T.int IntKind.i64 n, T.int IntKind.i64 n_1] else some [T.lst 1 ec3 c3, T.lst 1 ec4 c4, T.int IntKind.i64 (IntKind.i64.wrap ((IntKind.i64.wrap (IntKind.i64.wrap (v2 + v12) - (1 : Int))).tdiv v12)), T.int IntKind.i64
 (0 : Int), T.int IntKind.i64 (0 : Int)]) := by kernel_rfl
theorem e23 (O : Orc) (a0 : Int) (a1 : Int) : stepO PROG ann O (Key.call 23) [(I a0), (I a1)] [] =
  (some [T.int IntKind.i64 a0, T.int IntKind.i64 a1]) := by kernel_rfl
theorem e10 (O : Orc) (ex : Bool) (lx : List (List T)) (fx : Bool) (ox : List (List T)) (ax : Int) : stepO PROG ann O (Key.call 10) [AV.agg [AV.t (T.lst 1 ex lx), AV.t (T.lst 1 fx ox), I ax]] [] =
  (gdK none (O (Key.call 16) [AV.agg [AV.t (T.lst 1 ex lx), AV.t (T.lst 1 fx ox), I ax], I (120 : Int)] []) fun l => gdK none l.head? fun x => gdK none (T.int? IntKind.i64 x) fun n => gdK none l.tail.head? fun x => gdK none
 (T.int? IntKind.i64 x) fun n_1 => bif !n == (0 : Int) then some [T.emp true, T.emp true, T.int IntKind.i64 (0 : Int), T.int IntKind.i64 n, T.int IntKind.i64 n_1] else gdK none (O (Key.call 28) [AV.t (T.lst 1 ex lx), AV.t
 (T.lst 1 fx ox), I ax] []) fun l => gdK none l.head? fun x => gdK none (T.lst? 1 x) fun p => gdK none l.tail.head? fun x => gdK none (T.lst? 1 x) fun p_1 => gdK none l.tail.tail.head? fun x => gdK none (T.int? IntKind.i64
 x) fun n => gdK none (List.drop 3 l).head? fun x => gdK none (T.int? IntKind.i64 x) fun n_2 => gdK none (List.drop 3 l).tail.head? fun x => gdK none (T.int? IntKind.i64 x) fun n_3 => some [T.lst 1 p.fst p.snd, T.lst 1
 p_1.fst p_1.snd, T.int IntKind.i64 n, T.int IntKind.i64 n_2, T.int IntKind.i64 n_3]) := by kernel_rfl
theorem e11 (O : Orc) (ex : Bool) (lx : List (List T)) (fx : Bool) (ox : List (List T)) (ax : Int) : stepO PROG ann O (Key.call 11) [AV.agg [AV.t (T.lst 1 ex lx), AV.t (T.lst 1 fx ox), I ax]] [] =
  (gdK none (O (Key.call 10) [AV.agg [AV.t (T.lst 1 ex lx), AV.t (T.lst 1 fx ox), I ax]] []) fun l => gdK none l.head? fun x => gdK none (T.lst? 1 x) fun p => gdK none l.tail.head? fun x => gdK none (T.lst? 1 x) fun p_1 =>
 gdK none l.tail.tail.head? fun x => gdK none (T.int? IntKind.i64 x) fun n => gdK none (List.drop 3 l).head? fun x => gdK none (T.int? IntKind.i64 x) fun n_1 => gdK none (List.drop 3 l).tail.head? fun x => gdK none (T.int?
 IntKind.i64 x) fun n_2 => bif !n_1 == (0 : Int) then some [T.emp true, T.emp true, T.int IntKind.i64 (0 : Int), T.int IntKind.i64 n_1, T.int IntKind.i64 n_2] else O K11n5 [AV.ref (Id.c 0) 0, AV.ref (Id.c 1) 0, AV.ref
 (Id.c 2) 0, I (↑p_1.snd.length : Int), I (0 : Int)] [Blk.box [AV.t (T.lst 1 p.fst p.snd), AV.own (Id.c 3), I n], Blk.box [AV.t (T.emp true), AV.t (T.emp true), I (0 : Int)], Blk.box [I (0 : Int), I (0 : Int)], Blk.sl
 false 1 p_1.fst p_1.snd]) := by kernel_rfl
theorem e11n5 (O : Orc) (v18 : Int) (v19 : Int) (ec0_0 : Bool) (c0_0 : List (List T)) (c0_2 : Int) (ec1_0 : Bool) (ec1_1 : Bool) (c1_2 : Int) (c2_0 : Int) (c2_1 : Int) (ec3 : Bool) (c3 : List (List T)) : stepO PROG ann O K11n5 [(AV.ref (Id.c 0) 0), (AV.ref (Id.c 1) 0), (AV.ref (Id.c 2) 0), (I v18), (I v19)] [(Blk.box [(AV.t (T.lst 1 ec0_0 c0_0)), (AV.own (Id.c 3)), (I c0_2)]), (Blk.box [(AV.t (T.emp ec1_0)), (AV.t (T.emp ec1_1)), (I c1_2)]), (Blk.box [(I c2_0), (I c2_1)]), (Blk.sl false 1 ec3 c3)] =
  (bif decide (v19 < v18) then gdK none (if (0 : Int) ≤ v19 ∧ v19 < (↑c3.length : Int) then some () else none) fun x => gdK none c3[v19.toNat]? fun l => gdK none l.head? fun x => gdK none (T.int? IntKind.i64 x) fun n => gdK
 none (if (0 : Int) ≤ v19 ∧ v19 < (↑c3.length : Int) then some () else none) fun x => gdK none (storeIn v19.toNat 0 [T.int IntKind.i64 (mm false n c0_2)] c3) fun l => O K11n5 [AV.ref (Id.c 0) 0, AV.ref (Id.c 1) 0, AV.ref
 (Id.c 2) 0, I v18, I (IntKind.i64.wrap (v19 + (1 : Int)))] [Blk.box [AV.t (T.lst 1 ec0_0 c0_0), AV.own (Id.c 3), I c0_2], Blk.box [AV.t (T.emp ec1_0), AV.t (T.emp ec1_1), I c1_2], Blk.box [I c2_0, I c2_1], Blk.sl false 1
 ec3 l] else gdK none (O (Key.call 28) [AV.t (T.lst 1 ec0_0 c0_0), AV.t (T.lst 1 ec3 c3), I c0_2] []) fun l => gdK none l.head? fun x => gdK none (T.lst? 1 x) fun p => gdK none l.tail.head? fun x => gdK none (T.lst? 1 x)
 fun p_1 => gdK none l.tail.tail.head? fun x => gdK none (T.int? IntKind.i64 x) fun n => gdK none (List.drop 3 l).head? fun x => gdK none (T.int? IntKind.i64 x) fun n_1 => gdK none (List.drop 3 l).tail.head? fun x => gdK
 none (T.int? IntKind.i64 x) fun n_2 => some [T.lst 1 p.fst p.snd, T.lst 1 p_1.fst p_1.snd, T.int IntKind.i64 n, T.int IntKind.i64 n_1, T.int IntKind.i64 n_2]) := by kernel_rfl
theorem e18 (O : Orc) (ex : Bool) (lx : List (List T)) (fx : Bool) (ox : List (List T)) (ax : Int) : stepO PROG ann O (Key.call 18) [AV.agg [AV.t (T.lst 1 ex lx), AV.t (T.lst 1 fx ox), I ax]] [] =
  (gdK none (O (Key.call 36) [AV.t (T.lst 1 ex lx), AV.t (T.lst 1 fx ox), I ax] []) fun l => gdK none l.head? fun x => gdK none (T.lst? 1 x) fun p => gdK none l.tail.head? fun x => gdK none (T.lst? 1 x) fun p_1 => gdK none
 l.tail.tail.head? fun x => gdK none (T.int? IntKind.i64 x) fun n => gdK none (List.drop 3 l).head? fun x => gdK none (T.int? IntKind.i64 x) fun n_1 => gdK none (List.drop 3 l).tail.head? fun x => gdK none (T.int?
 IntKind.i64 x) fun n_2 => some [T.lst 1 p.fst p.snd, T.lst 1 p_1.fst p_1.snd, T.int IntKind.i64 n, T.int IntKind.i64 n_1, T.int IntKind.i64 n_2]) := by kernel_rfl
theorem e20 (O : Orc) (ex : Bool) (lx : List (List T)) (fx : Bool) (ox : List (List T)) (ax : Int) : stepO PROG ann O (Key.call 20) [AV.agg [AV.t (T.lst 1 ex lx), AV.t (T.lst 1 fx ox), I ax]] [] =
  (gdK none (O (Key.call 18) [AV.agg [AV.t (T.lst 1 ex lx), AV.t (T.lst 1 fx ox), I ax]] []) fun l => gdK none l.head? fun x => gdK none (T.lst? 1 x) fun p => gdK none l.tail.head? fun x => gdK none (T.lst? 1 x) fun p_1 =>
 gdK none l.tail.tail.head? fun x => gdK none (T.int? IntKind.i64 x) fun n => gdK none (List.drop 3 l).head? fun x => gdK none (T.int? IntKind.i64 x) fun n_1 => gdK none (List.drop 3 l).tail.head? fun x => gdK none (T.int?
 IntKind.i64 x) fun n_2 => bif !n_1 == (0 : Int) then some [T.emp true, T.emp true, T.int IntKind.i64 (0 : Int), T.int IntKind.i64 n_1, T.int IntKind.i64 n_2] else O K20n6 [AV.ref (Id.c 0) 0, AV.ref (Id.c 1) 0, AV.ref
 (Id.c 2) 0, AV.own (Id.c 3), I (0 : Int)] [Blk.box [AV.t (T.emp true), AV.t (T.emp true), I (0 : Int)], Blk.box [I (0 : Int), I (0 : Int)], Blk.box [AV.t (T.lst 1 p.fst p.snd), AV.t (T.lst 1 p_1.fst p_1.snd), I n], Blk.sl
 false 1 true []]) := by kernel_rfl
theorem e20n6 (O : Orc) (v7 : Int) (ec0_0 : Bool) (ec0_1 : Bool) (c0_2 : Int) (c1_0 : Int) (c1_1 : Int) (ec2_0 : Bool) (c2_0 : List (List T)) (ec2_1 : Bool) (c2_1 : List (List T)) (c2_2 : Int) (ec3 : Bool) (c3 : List (List T)) : stepO PROG ann O K20n6 [(AV.ref (Id.c 0) 0), (AV.ref (Id.c 1) 0), (AV.ref (Id.c 2) 0), (AV.own (Id.c 3)), (I v7)] [(Blk.box [(AV.t (T.emp ec0_0)), (AV.t (T.emp ec0_1)), (I c0_2)]), (Blk.box [(I c1_0), (I c1_1)]), (Blk.box [(AV.t (T.lst 1 ec2_0 c2_0)), (AV.t (T.lst 1 ec2_1 c2_1)), (I c2_2)]), (Blk.sl false 1 ec3 c3)] =
  (bif decide (v7 < (↑c2_1.length : Int)) then gdK none (if (0 : Int) ≤ v7 ∧ v7 < (↑c2_1.length : Int) then some () else none) fun x => gdK none c2_1[v7.toNat]? fun l => gdK none l.head? fun x => gdK none (T.int? IntKind.i64
 x) fun n => gdK none (small 8 (c3.length + [[T.int IntKind.i64 (mm false n c2_2)]].length)) fun x => O K20n6 [AV.ref (Id.c 0) 0, AV.ref (Id.c 1) 0, AV.ref (Id.c 2) 0, AV.own (Id.c 3), I (IntKind.i64.wrap (v7 + (1 :
 Int)))] [Blk.box [AV.t (T.emp ec0_0), AV.t (T.emp ec0_1), I c0_2], Blk.box [I c1_0, I c1_1], Blk.box [AV.t (T.lst 1 ec2_0 c2_0), AV.t (T.lst 1 ec2_1 c2_1), I c2_2], Blk.sl false 1 (ec3 && false) (c3 ++ [[T.int IntKind.i64
 (mm false n c2_2)]])] else gdK none (O (Key.call 36) [AV.t (T.lst 1 ec2_0 c2_0), AV.t (T.lst 1 ec3 c3), I c2_2] []) fun l => gdK none l.head? fun x => gdK none (T.lst? 1 x) fun p => gdK none l.tail.head? fun x => gdK none
 (T.lst? 1 x) fun p_1 => gdK none l.tail.tail.head? fun x => gdK none (T.int? IntKind.i64 x) fun n => gdK none (List.drop 3 l).head? fun x => gdK none (T.int? IntKind.i64 x) fun n_1 => gdK none (List.drop 3 l).tail.head?
 fun x => gdK none (T.int? IntKind.i64 x) fun n_2 => some [T.lst 1 p.fst p.snd, T.lst 1 p_1.fst p_1.snd, T.int IntKind.i64 n, T.int IntKind.i64 n_1, T.int IntKind.i64 n_2]) := by kernel_rfl
theorem e14 (O : Orc) (ex : Bool) (lx : List (List T)) (fx : Bool) (ox : List (List T)) (ax : Int) (d : Int) : stepO PROG ann O (Key.call 14) [AV.agg [AV.t (T.lst 1 ex lx), AV.t (T.lst 1 fx ox), I ax], I d] [] =
  (gdK none (O (Key.call 10) [AV.agg [AV.t (T.lst 1 ex lx), AV.t (T.lst 1 fx ox), I ax]] []) fun l => gdK none l.head? fun x => gdK none (T.lst? 1 x) fun p => gdK none l.tail.head? fun x => gdK none (T.lst? 1 x) fun p_1 =>
 gdK none l.tail.tail.head? fun x => gdK none (T.int? IntKind.i64 x) fun n => gdK none (List.drop 3 l).head? fun x => gdK none (T.int? IntKind.i64 x) fun n_1 => gdK none (List.drop 3 l).tail.head? fun x => gdK none (T.int?
 IntKind.i64 x) fun n_2 => bif !n_1 == (0 : Int) then some [T.emp true, T.emp true, T.int IntKind.i64 (0 : Int), T.int IntKind.i64 n_1, T.int IntKind.i64 n_2] else bif bif decide (d < (1 : Int)) then true else decide (d >
 (1000000 : Int)) then some [T.emp true, T.emp true, T.int IntKind.i64 (0 : Int), T.int IntKind.i64 (3 : Int), T.int IntKind.i64 (-1 : Int)] else O K14n7 [I d, AV.ref (Id.c 0) 0, AV.ref (Id.c 1) 0, AV.ref (Id.c 2) 0, I
 (↑p_1.snd.length : Int), I (0 : Int)] [Blk.box [AV.t (T.lst 1 p.fst p.snd), AV.own (Id.c 3), I n], Blk.box [AV.t (T.emp true), AV.t (T.emp true), I (0 : Int)], Blk.box [I (0 : Int), I (0 : Int)], Blk.sl false 1 p_1.fst
 p_1.snd]) := by kernel_rfl
theorem e14n7 (O : Orc) (v1 : Int) (v28 : Int) (v29 : Int) (ec0_0 : Bool) (c0_0 : List (List T)) (c0_2 : Int) (ec1_0 : Bool) (ec1_1 : Bool) (c1_2 : Int) (c2_0 : Int) (c2_1 : Int) (ec3 : Bool) (c3 : List (List T)) : stepO PROG ann O K14n7 [(I v1), (AV.ref (Id.c 0) 0), (AV.ref (Id.c 1) 0), (AV.ref (Id.c 2) 0), (I v28), (I v29)] [(Blk.box [(AV.t (T.lst 1 ec0_0 c0_0)), (AV.own (Id.c 3)), (I c0_2)]), (Blk.box [(AV.t (T.emp ec1_0)), (AV.t (T.emp ec1_1)), (I c1_2)]), (Blk.box [(I c2_0), (I c2_1)]), (Blk.sl false 1 ec3 c3)] =
  (bif decide (v29 < v28) then gdK none (if (0 : Int) ≤ v29 ∧ v29 < (↑c3.length : Int) then some () else none) fun x => gdK none c3[v29.toNat]? fun l => gdK none l.head? fun x => gdK none (T.int? IntKind.i64 x) fun n => gdK
 none (if v1 = (0 : Int) then none else some ()) fun x => gdK none (if (0 : Int) ≤ v29 ∧ v29 < (↑c3.length : Int) then some () else none) fun x => gdK none (storeIn v29.toNat 0 [T.int IntKind.i64 (IntKind.i64.wrap
 ((IntKind.i64.wrap (IntKind.i64.wrap (n + v1) - (1 : Int))).tdiv v1))] c3) fun l => O K14n7 [I v1, AV.ref (Id.c 0) 0, AV.ref (Id.c 1) 0, AV.ref (Id.c 2) 0, I v28, I (IntKind.i64.wrap (v29 + (1 : Int)))] [Blk.box [AV.t
 (T.lst 1 ec0_0 c0_0), AV.own (Id.c 3), I c0_2], Blk.box [AV.t (T.emp ec1_0), AV.t (T.emp ec1_1), I c1_2], Blk.box [I c2_0, I c2_1], Blk.sl false 1 ec3 l] else gdK none (if v1 = (0 : Int) then none else some ()) fun x =>
 gdK none (O (Key.call 28) [AV.t (T.lst 1 ec0_0 c0_0), AV.t (T.lst 1 ec3 c3), AV.t (T.int IntKind.i64 (IntKind.i64.wrap ((IntKind.i64.wrap (IntKind.i64.wrap (c0_2 + v1) - (1 : Int))).tdiv v1)))] []) fun l => gdK none
 l.head? fun x => gdK none (T.lst? 1 x) fun p => gdK none l.tail.head? fun x => gdK none (T.lst? 1 x) fun p_1 => gdK none l.tail.tail.head? fun x => gdK none (T.int? IntKind.i64 x) fun n => gdK none (List.drop 3 l).head?
 fun x => gdK none (T.int? IntKind.i64 x) fun n_1 => gdK none (List.drop 3 l).tail.head? fun x => gdK none (T.int? IntKind.i64 x) fun n_2 => some [T.lst 1 p.fst p.snd, T.lst 1 p_1.fst p_1.snd, T.int IntKind.i64 n, T.int
 IntKind.i64 n_1, T.int IntKind.i64 n_2]) := by kernel_rfl
theorem e19 (O : Orc) (ex : Bool) (lx : List (List T)) (fx : Bool) (ox : List (List T)) (ax : Int) (d : Int) : stepO PROG ann O (Key.call 19) [AV.agg [AV.t (T.lst 1 ex lx), AV.t (T.lst 1 fx ox), I ax], I d] [] =
  (gdK none (O (Key.call 18) [AV.agg [AV.t (T.lst 1 ex lx), AV.t (T.lst 1 fx ox), I ax]] []) fun l => gdK none l.head? fun x => gdK none (T.lst? 1 x) fun p => gdK none l.tail.head? fun x => gdK none (T.lst? 1 x) fun p_1 =>
 gdK none l.tail.tail.head? fun x => gdK none (T.int? IntKind.i64 x) fun n => gdK none (List.drop 3 l).head? fun x => gdK none (T.int? IntKind.i64 x) fun n_1 => gdK none (List.drop 3 l).tail.head? fun x => gdK none (T.int?
 IntKind.i64 x) fun n_2 => bif !n_1 == (0 : Int) then some [T.emp true, T.emp true, T.int IntKind.i64 (0 : Int), T.int IntKind.i64 n_1, T.int IntKind.i64 n_2] else bif bif decide (d < (1 : Int)) then true else decide (d >
 (1000000 : Int)) then gdK none (O (Key.call 23) [I (3 : Int), I (-1 : Int)] []) fun l => gdK none l.head? fun x => gdK none (T.int? IntKind.i64 x) fun n => gdK none l.tail.head? fun x => gdK none (T.int? IntKind.i64 x)
 fun n_3 => some [T.emp true, T.emp true, T.int IntKind.i64 (0 : Int), T.int IntKind.i64 n, T.int IntKind.i64 n_3] else O K19n8 [I d, AV.ref (Id.c 0) 0, AV.ref (Id.c 1) 0, AV.ref (Id.c 2) 0, AV.own (Id.c 3), I (0 : Int)]
 [Blk.box [AV.t (T.emp true), AV.t (T.emp true), I (0 : Int)], Blk.box [I (0 : Int), I (0 : Int)], Blk.box [AV.t (T.lst 1 p.fst p.snd), AV.t (T.lst 1 p_1.fst p_1.snd), I n], Blk.sl false 1 true []]) := by kernel_rfl
theorem e19n8 (O : Orc) (v1 : Int) (v9 : Int) (ec0_0 : Bool) (ec0_1 : Bool) (c0_2 : Int) (c1_0 : Int) (c1_1 : Int) (ec2_0 : Bool) (c2_0 : List (List T)) (ec2_1 : Bool) (c2_1 : List (List T)) (c2_2 : Int) (ec3 : Bool) (c3 : List (List T)) : stepO PROG ann O K19n8 [(I v1), (AV.ref (Id.c 0) 0), (AV.ref (Id.c 1) 0), (AV.ref (Id.c 2) 0), (AV.own (Id.c 3)), (I v9)] [(Blk.box [(AV.t (T.emp ec0_0)), (AV.t (T.emp ec0_1)), (I c0_2)]), (Blk.box [(I c1_0), (I c1_1)]), (Blk.box [(AV.t (T.lst 1 ec2_0 c2_0)), (AV.t (T.lst 1 ec2_1 c2_1)), (I c2_2)]), (Blk.sl false 1 ec3 c3)] =
  (bif decide (v9 < (↑c2_1.length : Int)) then gdK none (if (0 : Int) ≤ v9 ∧ v9 < (↑c2_1.length : Int) then some () else none) fun x => gdK none c2_1[v9.toNat]? fun l => gdK none l.head? fun x => gdK none (T.int? IntKind.i64
 x) fun n => gdK none (if v1 = (0 : Int) then none else some ()) fun x => gdK none (small 8 (c3.length + [[T.int IntKind.i64 (IntKind.i64.wrap ((IntKind.i64.wrap (IntKind.i64.wrap (n + v1) - (1 : Int))).tdiv
 v1))]].length)) fun x => O K19n8 [I v1, AV.ref (Id.c 0) 0, AV.ref (Id.c 1) 0, AV.ref (Id.c 2) 0, AV.own (Id.c 3), I (IntKind.i64.wrap (v9 + (1 : Int)))] [Blk.box [AV.t (T.emp ec0_0), AV.t (T.emp ec0_1), I c0_2], Blk.box
 [I c1_0, I c1_1], Blk.box [AV.t (T.lst 1 ec2_0 c2_0), AV.t (T.lst 1 ec2_1 c2_1), I c2_2], Blk.sl false 1 (ec3 && false) (c3 ++ [[T.int IntKind.i64 (IntKind.i64.wrap ((IntKind.i64.wrap (IntKind.i64.wrap (n + v1) - (1 :
 Int))).tdiv v1))]])] else gdK none (if v1 = (0 : Int) then none else some ()) fun x => gdK none (O (Key.call 36) [AV.t (T.lst 1 ec2_0 c2_0), AV.t (T.lst 1 ec3 c3), AV.t (T.int IntKind.i64 (IntKind.i64.wrap
 ((IntKind.i64.wrap (IntKind.i64.wrap (c2_2 + v1) - (1 : Int))).tdiv v1)))] []) fun l => gdK none l.head? fun x => gdK none (T.lst? 1 x) fun p => gdK none l.tail.head? fun x => gdK none (T.lst? 1 x) fun p_1 => gdK none
 l.tail.tail.head? fun x => gdK none (T.int? IntKind.i64 x) fun n => gdK none (List.drop 3 l).head? fun x => gdK none (T.int? IntKind.i64 x) fun n_1 => gdK none (List.drop 3 l).tail.head? fun x => gdK none (T.int?
 IntKind.i64 x) fun n_2 => some [T.lst 1 p.fst p.snd, T.lst 1 p_1.fst p_1.snd, T.int IntKind.i64 n, T.int IntKind.i64 n_1, T.int IntKind.i64 n_2]) := by kernel_rfl
theorem e15 (O : Orc) (ex : Bool) (lx : List (List T)) (fx : Bool) (ox : List (List T)) (ax : Int) (n : Int) : stepO PROG ann O (Key.call 15) [AV.agg [AV.t (T.lst 1 ex lx), AV.t (T.lst 1 fx ox), I ax], I n] [] =
  (bif bif decide (n < (0 : Int)) then true else decide (n > (120 : Int)) then gdK none (O (Key.call 23) [I (3 : Int), I (-1 : Int)] []) fun l => gdK none l.head? fun x => gdK none (T.int? IntKind.i64 x) fun n => gdK none
 l.tail.head? fun x => gdK none (T.int? IntKind.i64 x) fun n_1 => some [T.int IntKind.i64 n, T.int IntKind.i64 n_1] else bif decide ((↑lx.length : Int) > (24 : Int)) then gdK none (O (Key.call 23) [I (2 : Int), I (0 :
 Int)] []) fun l => gdK none l.head? fun x => gdK none (T.int? IntKind.i64 x) fun n => gdK none l.tail.head? fun x => gdK none (T.int? IntKind.i64 x) fun n_1 => some [T.int IntKind.i64 n, T.int IntKind.i64 n_1] else bif
 !(↑lx.length : Int) == (↑ox.length : Int) then gdK none (O (Key.call 23) [I (9 : Int), I (0 : Int)] []) fun l => gdK none l.head? fun x => gdK none (T.int? IntKind.i64 x) fun n => gdK none l.tail.head? fun x => gdK none
 (T.int? IntKind.i64 x) fun n_1 => some [T.int IntKind.i64 n, T.int IntKind.i64 n_1] else O K15n8 [I n, AV.ref (Id.c 0) 0, AV.ref (Id.c 1) 0, I (0 : Int)] [Blk.box [AV.t (T.lst 1 ex lx), AV.t (T.lst 1 fx ox), I ax],
 Blk.box [I (0 : Int), I (0 : Int)]]) := by kernel_rfl
theorem e15n8 (O : Orc) (v1 : Int) (v5 : Int) (ec0_0 : Bool) (c0_0 : List (List T)) (ec0_1 : Bool) (c0_1 : List (List T)) (c0_2 : Int) (c1_0 : Int) (c1_1 : Int) : stepO PROG ann O K15n8 [(I v1), (AV.ref (Id.c 0) 0), (AV.ref (Id.c 1) 0), (I v5)] [(Blk.box [(AV.t (T.lst 1 ec0_0 c0_0)), (AV.t (T.lst 1 ec0_1 c0_1)), (I c0_2)]), (Blk.box [(I c1_0), (I c1_1)])] =
  (bif decide (v5 < (↑c0_0.length : Int)) then gdK none (if (0 : Int) ≤ v5 ∧ v5 < (↑c0_0.length : Int) then some () else none) fun x => gdK none c0_0[v5.toNat]? fun l => gdK none l.head? fun x => gdK none (T.int? IntKind.i64
 x) fun n => gdK (some !n == (0 : Int)) (if (0 : Int) ≤ v5 ∧ v5 < (↑c0_0.length : Int) then some () else none) fun x => gdK (some !n == (0 : Int)) c0_0[v5.toNat]? fun l => gdK (some !n == (0 : Int)) l.head? fun x => gdK
 (some !n == (0 : Int)) (T.int? IntKind.i64 x) fun n_1 => gdK (some !bif n == (0 : Int) then true else decide (n_1 > v1)) (if (0 : Int) ≤ v5 ∧ v5 < (↑c0_0.length : Int) then some () else none) fun x => gdK (some !bif n ==
 (0 : Int) then true else decide (n_1 > v1)) c0_0[v5.toNat]? fun l => gdK (some !bif n == (0 : Int) then true else decide (n_1 > v1)) l.head? fun x => gdK (some !bif n == (0 : Int) then true else decide (n_1 > v1)) (T.int?
 IntKind.i64 x) fun n_2 => bif bif bif n == (0 : Int) then true else decide (n_1 > v1) then true else decide (n_2 < IntKind.i64.wrap ((0 : Int) - v1)) then gdK none (O (Key.call 23) [I (3 : Int), I v5] []) fun l => gdK
 none l.head? fun x => gdK none (T.int? IntKind.i64 x) fun n => gdK none l.tail.head? fun x => gdK none (T.int? IntKind.i64 x) fun n_3 => some [T.int IntKind.i64 n, T.int IntKind.i64 n_3] else O K15n13 [I v1, AV.ref (Id.c
 0) 0, AV.ref (Id.c 1) 0, I v5, I (0 : Int)] [Blk.box [AV.t (T.lst 1 ec0_0 c0_0), AV.t (T.lst 1 ec0_1 c0_1), I c0_2], Blk.box [I c1_0, I c1_1]] else gdK none (O (Key.call 31) [I c0_2] []) fun l => gdK none l.head? fun x =>
 gdK none x.bool? fun b => bif !b then gdK none (O (Key.call 23) [I (5 : Int), I (↑c0_0.length : Int)] []) fun l => gdK none l.head? fun x => gdK none (T.int? IntKind.i64 x) fun n => gdK none l.tail.head? fun x => gdK none
 (T.int? IntKind.i64 x) fun n_1 => some [T.int IntKind.i64 n, T.int IntKind.i64 n_1] else some [T.int IntKind.i64 (0 : Int), T.int IntKind.i64 (0 : Int)]) := by kernel_rfl
theorem e15n13 (O : Orc) (v1 : Int) (v5 : Int) (v6 : Int) (ec0_0 : Bool) (c0_0 : List (List T)) (ec0_1 : Bool) (c0_1 : List (List T)) (c0_2 : Int) (c1_0 : Int) (c1_1 : Int) : stepO PROG ann O K15n13 [(I v1), (AV.ref (Id.c 0) 0), (AV.ref (Id.c 1) 0), (I v5), (I v6)] [(Blk.box [(AV.t (T.lst 1 ec0_0 c0_0)), (AV.t (T.lst 1 ec0_1 c0_1)), (I c0_2)]), (Blk.box [(I c1_0), (I c1_1)])] =
  (bif decide (v6 < v5) then gdK none (if (0 : Int) ≤ v6 ∧ v6 < (↑c0_0.length : Int) then some () else none) fun x => gdK none c0_0[v6.toNat]? fun l => gdK none l.head? fun x => gdK none (T.int? IntKind.i64 x) fun n => gdK
 none (if (0 : Int) ≤ v5 ∧ v5 < (↑c0_0.length : Int) then some () else none) fun x => gdK none c0_0[v5.toNat]? fun l => gdK none l.head? fun x => gdK none (T.int? IntKind.i64 x) fun n_1 => gdK (some !n == n_1) (if (0 :
 Int) ≤ v6 ∧ v6 < (↑c0_0.length : Int) then some () else none) fun x => gdK (some !n == n_1) c0_0[v6.toNat]? fun l => gdK (some !n == n_1) l.head? fun x => gdK (some !n == n_1) (T.int? IntKind.i64 x) fun n_2 => gdK (some
 !n == n_1) (if (0 : Int) ≤ v5 ∧ v5 < (↑c0_0.length : Int) then some () else none) fun x => gdK (some !n == n_1) c0_0[v5.toNat]? fun l => gdK (some !n == n_1) l.head? fun x => gdK (some !n == n_1) (T.int? IntKind.i64 x)
 fun n_3 => bif bif n == n_1 then true else n_2 == IntKind.i64.wrap ((0 : Int) - n_3) then gdK none (O (Key.call 23) [I (7 : Int), I v5] []) fun l => gdK none l.head? fun x => gdK none (T.int? IntKind.i64 x) fun n => gdK
 none l.tail.head? fun x => gdK none (T.int? IntKind.i64 x) fun n_4 => some [T.int IntKind.i64 n, T.int IntKind.i64 n_4] else O K15n13 [I v1, AV.ref (Id.c 0) 0, AV.ref (Id.c 1) 0, I v5, I (IntKind.i64.wrap (v6 + (1 :
 Int)))] [Blk.box [AV.t (T.lst 1 ec0_0 c0_0), AV.t (T.lst 1 ec0_1 c0_1), I c0_2], Blk.box [I c1_0, I c1_1]] else gdK none (if (0 : Int) ≤ v5 ∧ v5 < (↑c0_1.length : Int) then some () else none) fun x => gdK none
 c0_1[v5.toNat]? fun l => gdK none l.head? fun x => gdK none (T.int? IntKind.i64 x) fun n => gdK none (O (Key.call 31) [I n] []) fun l => gdK none l.head? fun x => gdK none x.bool? fun b => bif !b then gdK none (O
 (Key.call 23) [I (5 : Int), I v5] []) fun l => gdK none l.head? fun x => gdK none (T.int? IntKind.i64 x) fun n => gdK none l.tail.head? fun x => gdK none (T.int? IntKind.i64 x) fun n_1 => some [T.int IntKind.i64 n, T.int
 IntKind.i64 n_1] else O K15n8 [I v1, AV.ref (Id.c 0) 0, AV.ref (Id.c 1) 0, I (IntKind.i64.wrap (v5 + (1 : Int)))] [Blk.box [AV.t (T.lst 1 ec0_0 c0_0), AV.t (T.lst 1 ec0_1 c0_1), I c0_2], Blk.box [I c1_0, I c1_1]]) := by kernel_rfl
theorem e31 (O : Orc) (a0 : Int) : stepO PROG ann O (Key.call 31) [(I a0)] [] =
  (some [T.bool (bif decide (a0 ≤ (1000000 : Int)) then decide (a0 ≥ (-1000000 : Int)) else false)]) := by kernel_rfl
theorem e16 (O : Orc) (ex : Bool) (lx : List (List T)) (fx : Bool) (ox : List (List T)) (ax : Int) (n : Int) : stepO PROG ann O (Key.call 16) [AV.agg [AV.t (T.lst 1 ex lx), AV.t (T.lst 1 fx ox), I ax], I n] [] =
  (bif bif decide (n < (0 : Int)) then true else decide (n > (120 : Int)) then some [T.int IntKind.i64 (3 : Int), T.int IntKind.i64 (-1 : Int)] else bif decide ((↑lx.length : Int) > (24 : Int)) then some [T.int IntKind.i64
 (2 : Int), T.int IntKind.i64 (0 : Int)] else bif !(↑ox.length : Int) == (↑lx.length : Int) then some [T.int IntKind.i64 (9 : Int), T.int IntKind.i64 (0 : Int)] else O K16n8 [I n, AV.ref (Id.c 0) 0, AV.ref (Id.c 1) 0, AV.t
 (T.lst 1 ex lx), I (↑lx.length : Int), I (0 : Int)] [Blk.box [AV.t (T.lst 1 ex lx), AV.t (T.lst 1 fx ox), I ax], Blk.box [I (0 : Int), I (0 : Int)]]) := by kernel_rfl
theorem e16n8 (O : Orc) (v1 : Int) (ev31 : Bool) (v31 : List (List T)) (v32 : Int) (v33 : Int) (ec0_0 : Bool) (c0_0 : List (List T)) (ec0_1 : Bool) (c0_1 : List (List T)) (c0_2 : Int) (c1_0 : Int) (c1_1 : Int) : stepO PROG ann O K16n8 [(I v1), (AV.ref (Id.c 0) 0), (AV.ref (Id.c 1) 0), (AV.t (T.lst 1 ev31 v31)), (I v32), (I v33)] [(Blk.box [(AV.t (T.lst 1 ec0_0 c0_0)), (AV.t (T.lst 1 ec0_1 c0_1)), (I c0_2)]), (Blk.box [(I c1_0), (I c1_1)])] =
  (bif decide (v33 < v32) then gdK none (if (0 : Int) ≤ v33 ∧ v33 < (↑v31.length : Int) then some () else none) fun x => gdK none v31[v33.toNat]? fun l => gdK none l.head? fun x => gdK none (T.int? IntKind.i64 x) fun n =>
 bif bif bif n == (0 : Int) then true else decide (n < IntKind.i64.wrap ((0 : Int) - v1)) then true else decide (n > v1) then some [T.int IntKind.i64 (3 : Int), T.int IntKind.i64 v33] else gdK none (inB (0 : Int) v33
 (↑c0_0.length : Int)) fun x => gdK none (O (Key.call 32) [AV.t (T.lst 1 ec0_0 (sub (0 : Int) v33 c0_0)), AV.fn 33 [] [AV.t (T.ptr [T.int IntKind.i64 n])]] []) fun l => gdK none l.head? fun x => gdK none x.bool? fun b =>
 bif b then some [T.int IntKind.i64 (7 : Int), T.int IntKind.i64 v33] else gdK none (if (0 : Int) ≤ v33 ∧ v33 < (↑c0_1.length : Int) then some () else none) fun x => gdK none c0_1[v33.toNat]? fun l => gdK none l.head? fun
 x => gdK none (T.int? IntKind.i64 x) fun n => gdK none (O (Key.call 35) [I n] []) fun l => gdK none l.head? fun x => gdK none x.bool? fun b => bif !b then some [T.int IntKind.i64 (5 : Int), T.int IntKind.i64 v33] else O
 K16n8 [I v1, AV.ref (Id.c 0) 0, AV.ref (Id.c 1) 0, AV.t (T.lst 1 ev31 v31), I v32, I (IntKind.i64.wrap (v33 + (1 : Int)))] [Blk.box [AV.t (T.lst 1 ec0_0 c0_0), AV.t (T.lst 1 ec0_1 c0_1), I c0_2], Blk.box [I c1_0, I c1_1]]
 else gdK none (O (Key.call 35) [I c0_2] []) fun l => gdK none l.head? fun x => gdK none x.bool? fun b => bif !b then some [T.int IntKind.i64 (5 : Int), T.int IntKind.i64 (↑c0_0.length : Int)] else some [T.int IntKind.i64
 (0 : Int), T.int IntKind.i64 (0 : Int)]) := by kernel_rfl
theorem e32 (O : Orc) (ea0 : Bool) (a0 : List (List T)) (a1c : Int) : stepO PROG ann O (Key.call 32) [(AV.t (T.lst 1 ea0 a0)), (AV.fn 33 [] [(AV.t (T.ptr [(T.int IntKind.i64 a1c)]))])] [] =
  (gdK none (O (Key.call 43) [AV.t (T.lst 1 ea0 a0), AV.fn 33 [] [AV.t (T.ptr [T.int IntKind.i64 a1c])]] []) fun l => gdK none l.head? fun x => gdK none (T.int? IntKind.i64 x) fun n => some [T.bool (decide (n ≥ (0 : Int)))]) := by kernel_rfl
theorem e35 (O : Orc) (a0 : Int) : stepO PROG ann O (Key.call 35) [(I a0)] [] =
  (some [T.bool (bif decide (a0 ≥ (-1000000 : Int)) then decide (a0 ≤ (1000000 : Int)) else false)]) := by kernel_rfl
theorem e43 (O : Orc) (ea0 : Bool) (a0 : List (List T)) (a1c : Int) : stepO PROG ann O (Key.call 43) [(AV.t (T.lst 1 ea0 a0)), (AV.fn 33 [] [(AV.t (T.ptr [(T.int IntKind.i64 a1c)]))])] [] =
  (O K43n2 [AV.t (T.lst 1 ea0 a0), AV.fn 33 [] [AV.t (T.ptr [T.int IntKind.i64 a1c])], I (↑a0.length : Int), I (0 : Int)] []) := by kernel_rfl
theorem e43n2 (O : Orc) (ev0 : Bool) (v0 : List (List T)) (v1c : Int) (v7 : Int) (v8 : Int) : stepO PROG ann O K43n2 [(AV.t (T.lst 1 ev0 v0)), (AV.fn 33 [] [(AV.t (T.ptr [(T.int IntKind.i64 v1c)]))]), (I v7), (I v8)] [] =
  (bif decide (v8 < v7) then gdK none (if (0 : Int) ≤ v8 ∧ v8 < (↑v0.length : Int) then some () else none) fun x => gdK none v0[v8.toNat]? fun l => gdK none l.head? fun x => gdK none (T.int? IntKind.i64 x) fun n => gdK none
 (O (Key.call 33) [I n, AV.t (T.ptr [T.int IntKind.i64 v1c])] []) fun l => gdK none l.head? fun x => gdK none x.bool? fun b => bif b then some [T.int IntKind.i64 v8] else O K43n2 [AV.t (T.lst 1 ev0 v0), AV.fn 33 [] [AV.t
 (T.ptr [T.int IntKind.i64 v1c])], I v7, I (IntKind.i64.wrap (v8 + (1 : Int)))] [] else some [T.int IntKind.i64 (-1 : Int)]) := by kernel_rfl
theorem e33 (O : Orc) (a0 : Int) (a1 : Int) : stepO PROG ann O (Key.call 33) [(I a0), (AV.t (T.ptr [(T.int IntKind.i64 a1)]))] [] =
  (gdK none (O (Key.call 34) [I a0] []) fun l => gdK none l.head? fun x => gdK none (T.int? IntKind.i64 x) fun n => gdK none (O (Key.call 34) [I a1] []) fun l => gdK none l.head? fun x => gdK none (T.int? IntKind.i64 x) fun
 n_1 => some [T.bool (n == n_1)]) := by kernel_rfl
theorem e34 (O : Orc) (a0 : Int) : stepO PROG ann O (Key.call 34) [(I a0)] [] =
  (some [T.int IntKind.i64 (mm true a0 (IntKind.i64.wrap ((0 : Int) - a0)))]) := by kernel_rfl
theorem e12 (O : Orc) (ex : Bool) (lx : List (List T)) (fx : Bool) (ox : List (List T)) (ax : Int) (ey : Bool) (ly : List (List T)) (fy : Bool) (oy : List (List T)) (ay : Int) : stepO PROG ann O (Key.call 12) [AV.agg [AV.t (T.lst 1 ex lx), AV.t (T.lst 1 fx ox), I ax], AV.agg [AV.t (T.lst 1 ey ly), AV.t (T.lst 1 fy oy), I ay]] [] =
  (gdK none (askO (some (ax == ay)) (O (Key.call 29) [AV.t (T.lst 1 ex lx), AV.t (T.lst 1 ey ly)] [])) fun l => gdK (some (ax == ay)) l.head? fun x => gdK (some (ax == ay)) x.bool? fun b => gdK none (askO (some (bif ax == ay
 then b else false)) (O (Key.call 29) [AV.t (T.lst 1 fx ox), AV.t (T.lst 1 fy oy)] [])) fun l => gdK (some (bif ax == ay then b else false)) l.head? fun x => gdK (some (bif ax == ay then b else false)) x.bool? fun b_1 =>
 some [T.bool (bif bif ax == ay then b else false then b_1 else false)]) := by kernel_rfl
theorem e21 (O : Orc) (ex : Bool) (lx : List (List T)) (fx : Bool) (ox : List (List T)) (ax : Int) (ey : Bool) (ly : List (List T)) (fy : Bool) (oy : List (List T)) (ay : Int) : stepO PROG ann O (Key.call 21) [AV.agg [AV.t (T.lst 1 ex lx), AV.t (T.lst 1 fx ox), I ax], AV.agg [AV.t (T.lst 1 ey ly), AV.t (T.lst 1 fy oy), I ay]] [] =
  (gdK none (small 8 lx.length) fun x => gdK none (small 8 (lx.length + ly.length)) fun x => gdK none (small 8 ox.length) fun x => gdK none (small 8 (ox.length + oy.length)) fun x => gdK none (O (Key.call 36) [AV.t (T.lst 1
 (lx.isEmpty && ly.isEmpty) (lx ++ ly)), AV.t (T.lst 1 (ox.isEmpty && oy.isEmpty) (ox ++ oy)), I (IntKind.i64.wrap (ax + ay))] []) fun l => gdK none l.head? fun x => gdK none (T.lst? 1 x) fun p => gdK none l.tail.head? fun
 x => gdK none (T.lst? 1 x) fun p_1 => gdK none l.tail.tail.head? fun x => gdK none (T.int? IntKind.i64 x) fun n => gdK none (List.drop 3 l).head? fun x => gdK none (T.int? IntKind.i64 x) fun n_1 => gdK none (List.drop 3
 l).tail.head? fun x => gdK none (T.int? IntKind.i64 x) fun n_2 => some [T.lst 1 p.fst p.snd, T.lst 1 p_1.fst p_1.snd, T.int IntKind.i64 n, T.int IntKind.i64 n_1, T.int IntKind.i64 n_2]) := by kernel_rfl
theorem e13 (O : Orc) (ex : Bool) (lx : List (List T)) (fx : Bool) (ox : List (List T)) (ax : Int) (ey : Bool) (ly : List (List T)) (fy : Bool) (oy : List (List T)) (ay : Int) : stepO PROG ann O (Key.call 13) [AV.agg [AV.t (T.lst 1 ex lx), AV.t (T.lst 1 fx ox), I ax], AV.agg [AV.t (T.lst 1 ey ly), AV.t (T.lst 1 fy oy), I ay]] [] =
  (O K13n2 [AV.ref (Id.c 0) 0, AV.ref (Id.c 1) 0, AV.ref (Id.c 2) 0, AV.ref (Id.c 3) 0, AV.own (Id.c 4), AV.t (T.int IntKind.i64 (↑[[T.lst 1 ex lx, T.lst 1 fx ox, T.int IntKind.i64 ax], [T.lst 1 ey ly, T.lst 1 fy oy, T.int
 IntKind.i64 ay]].length : Int)), I (0 : Int)] [Blk.box [AV.t (T.lst 1 ex lx), AV.t (T.lst 1 fx ox), I ax], Blk.box [AV.t (T.lst 1 ey ly), AV.t (T.lst 1 fy oy), I ay], Blk.box [AV.t (T.emp true), AV.t (T.emp true), I (0 :
 Int)], Blk.box [I (0 : Int), I (0 : Int)], Blk.sl false 3 false [[T.lst 1 ex lx, T.lst 1 fx ox, T.int IntKind.i64 ax], [T.lst 1 ey ly, T.lst 1 fy oy, T.int IntKind.i64 ay]]]) := by kernel_rfl
theorem e13n2 (O : Orc) (v12 : Int) (v13 : Int) (ec0_0 : Bool) (c0_0 : List (List T)) (ec0_1 : Bool) (c0_1 : List (List T)) (c0_2 : Int) (ec1_0 : Bool) (c1_0 : List (List T)) (ec1_1 : Bool) (c1_1 : List (List T)) (c1_2 : Int) (ec2_0 : Bool) (ec2_1 : Bool) (c2_2 : Int) (c3_0 : Int) (c3_1 : Int) (ec4 : Bool) (c4 : List (List T)) : stepO PROG ann O K13n2 [(AV.ref (Id.c 0) 0), (AV.ref (Id.c 1) 0), (AV.ref (Id.c 2) 0), (AV.ref (Id.c 3) 0), (AV.own (Id.c 4)), (I v12), (I v13)] [(Blk.box [(AV.t (T.lst 1 ec0_0 c0_0)), (AV.t (T.lst 1 ec0_1 c0_1)), (I c0_2)]), (Blk.box [(AV.t (T.lst 1 ec1_0 c1_0)), (AV.t (T.lst 1 ec1_1 c1_1)), (I c1_2)]), (Blk.box [(AV.t (T.emp ec2_0)), (AV.t (T.emp ec2_1)), (I c2_2)]), (Blk.box [(I c3_0), (I c3_1)]), (Blk.sl false 3 ec4 c4)] =
  (bif decide (v13 < v12) then gdK none (if (0 : Int) ≤ v13 ∧ v13 < (↑c4.length : Int) then some () else none) fun x => gdK none c4[v13.toNat]? fun l => gdK none l.head? fun x => gdK none l.tail.head? fun x_1 => gdK none
 l.tail.tail.head? fun x_2 => gdK none (T.lst? 1 x) fun p => gdK none (T.lst? 1 x_1) fun p_1 => gdK none (T.int? IntKind.i64 x_2) fun n => gdK none (O (Key.call 16) [AV.agg [AV.t (T.lst 1 p.fst p.snd), AV.t (T.lst 1
 p_1.fst p_1.snd), I n], I (120 : Int)] []) fun l => gdK none l.head? fun x => gdK none (T.int? IntKind.i64 x) fun n => gdK none l.tail.head? fun x => gdK none (T.int? IntKind.i64 x) fun n_1 => bif !n == (0 : Int) then
 some [T.emp true, T.emp true, T.int IntKind.i64 (0 : Int), T.int IntKind.i64 n, T.int IntKind.i64 n_1] else O K13n2 [AV.ref (Id.c 0) 0, AV.ref (Id.c 1) 0, AV.ref (Id.c 2) 0, AV.ref (Id.c 3) 0, AV.own (Id.c 4), I v12, I
 (IntKind.i64.wrap (v13 + (1 : Int)))] [Blk.box [AV.t (T.lst 1 ec0_0 c0_0), AV.t (T.lst 1 ec0_1 c0_1), I c0_2], Blk.box [AV.t (T.lst 1 ec1_0 c1_0), AV.t (T.lst 1 ec1_1 c1_1), I c1_2], Blk.box [AV.t (T.emp ec2_0), AV.t
 (T.emp ec2_1), I c2_2], Blk.box [I c3_0, I c3_1], Blk.sl false 3 ec4 c4] else gdK none (O (Key.call 30) [AV.t (T.lst 1 false [[T.lst 1 ec0_0 c0_0], [T.lst 1 ec1_0 c1_0]])] []) fun l => gdK none l.head? fun x => gdK none
 (T.lst? 1 x) fun p => gdK none (O (Key.call 30) [AV.t (T.lst 1 false [[T.lst 1 ec0_1 c0_1], [T.lst 1 ec1_1 c1_1]])] []) fun l => gdK none l.head? fun x => gdK none (T.lst? 1 x) fun p_1 => gdK none (O (Key.call 28) [AV.t
 (T.lst 1 p.fst p.snd), AV.t (T.lst 1 p_1.fst p_1.snd), I (IntKind.i64.wrap (c0_2 + c1_2))] []) fun l => gdK none l.head? fun x => gdK none (T.lst? 1 x) fun p => gdK none l.tail.head? fun x => gdK none (T.lst? 1 x) fun p_2
 => gdK none l.tail.tail.head? fun x => gdK none (T.int? IntKind.i64 x) fun n => gdK none (List.drop 3 l).head? fun x => gdK none (T.int? IntKind.i64 x) fun n_1 => gdK none (List.drop 3 l).tail.head? fun x => gdK none
 (T.int? IntKind.i64 x) fun n_2 => some [T.lst 1 p.fst p.snd, T.lst 1 p_2.fst p_2.snd, T.int IntKind.i64 n, T.int IntKind.i64 n_1, T.int IntKind.i64 n_2]) := by kernel_rfl
theorem e9 (O : Orc) (ex : Bool) (lx : List (List T)) (fx : Bool) (ox : List (List T)) (ax : Int) (eh : Bool) (h : List (List T)) : stepO PROG ann O (Key.call 9) [AV.agg [AV.t (T.lst 1 ex lx), AV.t (T.lst 1 fx ox), I ax], AV.t (T.lst 1 eh h)] [] =
  (gdK none (O (Key.call 16) [AV.agg [AV.t (T.lst 1 ex lx), AV.t (T.lst 1 fx ox), I ax], I (↑h.length : Int)] []) fun l => gdK none l.head? fun x => gdK none (T.int? IntKind.i64 x) fun n => gdK none l.tail.head? fun x => gdK
 none (T.int? IntKind.i64 x) fun n_1 => bif !n == (0 : Int) then some [T.bool false, T.int IntKind.i64 n, T.int IntKind.i64 n_1] else O K9n6 [AV.t (T.lst 1 eh h), AV.ref (Id.c 0) 0, AV.ref (Id.c 1) 0, I (0 : Int), AV.t
 (T.lst 1 ex lx), I (↑lx.length : Int), I (0 : Int)] [Blk.box [AV.t (T.lst 1 ex lx), AV.t (T.lst 1 fx ox), I ax], Blk.box [I (0 : Int), I (0 : Int)]]) := by kernel_rfl
theorem e9n6 (O : Orc) (ev1 : Bool) (v1 : List (List T)) (v7 : Int) (ev19 : Bool) (v19 : List (List T)) (v20 : Int) (v21 : Int) (ec0_0 : Bool) (c0_0 : List (List T)) (ec0_1 : Bool) (c0_1 : List (List T)) (c0_2 : Int) (c1_0 : Int) (c1_1 : Int) : stepO PROG ann O K9n6 [(AV.t (T.lst 1 ev1 v1)), (AV.ref (Id.c 0) 0), (AV.ref (Id.c 1) 0), (I v7), (AV.t (T.lst 1 ev19 v19)), (I v20), (I v21)] [(Blk.box [(AV.t (T.lst 1 ec0_0 c0_0)), (AV.t (T.lst 1 ec0_1 c0_1)), (I c0_2)]), (Blk.box [(I c1_0), (I c1_1)])] =
  (bif decide (v21 < v20) then gdK none (if (0 : Int) ≤ v21 ∧ v21 < (↑v19.length : Int) then some () else none) fun x => gdK none v19[v21.toNat]? fun l => gdK none l.head? fun x => gdK none (T.int? IntKind.i64 x) fun n =>
 gdK none (O (Key.call 27) [I n, AV.t (T.lst 1 ev1 v1)] []) fun l => gdK none l.head? fun x => gdK none x.bool? fun b => bif b then gdK none (if (0 : Int) ≤ v21 ∧ v21 < (↑c0_1.length : Int) then some () else none) fun x =>
 gdK none c0_1[v21.toNat]? fun l => gdK none l.head? fun x => gdK none (T.int? IntKind.i64 x) fun n => O K9n6 [AV.t (T.lst 1 ev1 v1), AV.ref (Id.c 0) 0, AV.ref (Id.c 1) 0, I (IntKind.i64.wrap (v7 + n)), AV.t (T.lst 1 ev19
 v19), I v20, I (IntKind.i64.wrap (v21 + (1 : Int)))] [Blk.box [AV.t (T.lst 1 ec0_0 c0_0), AV.t (T.lst 1 ec0_1 c0_1), I c0_2], Blk.box [I c1_0, I c1_1]] else O K9n6 [AV.t (T.lst 1 ev1 v1), AV.ref (Id.c 0) 0, AV.ref (Id.c
 1) 0, I v7, AV.t (T.lst 1 ev19 v19), I v20, I (IntKind.i64.wrap (v21 + (1 : Int)))] [Blk.box [AV.t (T.lst 1 ec0_0 c0_0), AV.t (T.lst 1 ec0_1 c0_1), I c0_2], Blk.box [I c1_0, I c1_1]] else some [T.bool (decide (v7 ≥
 c0_2)), T.int IntKind.i64 (0 : Int), T.int IntKind.i64 (0 : Int)]) := by kernel_rfl
theorem e17 (O : Orc) (ex : Bool) (lx : List (List T)) (fx : Bool) (ox : List (List T)) (ax : Int) (eh : Bool) (h : List (List T)) : stepO PROG ann O (Key.call 17) [AV.agg [AV.t (T.lst 1 ex lx), AV.t (T.lst 1 fx ox), I ax], AV.t (T.lst 1 eh h)] [] =
  (O K17n3 [AV.t (T.lst 1 eh h), AV.ref (Id.c 0) 0, I (0 : Int), I (0 : Int)] [Blk.box [AV.t (T.lst 1 ex lx), AV.t (T.lst 1 fx ox), I ax]]) := by kernel_rfl
theorem e17n3 (O : Orc) (ev1 : Bool) (v1 : List (List T)) (v5 : Int) (v6 : Int) (ec0_0 : Bool) (c0_0 : List (List T)) (ec0_1 : Bool) (c0_1 : List (List T)) (c0_2 : Int) : stepO PROG ann O K17n3 [(AV.t (T.lst 1 ev1 v1)), (AV.ref (Id.c 0) 0), (I v5), (I v6)] [(Blk.box [(AV.t (T.lst 1 ec0_0 c0_0)), (AV.t (T.lst 1 ec0_1 c0_1)), (I c0_2)])] =
  (bif decide (v6 < (↑c0_0.length : Int)) then gdK none (if (0 : Int) ≤ v6 ∧ v6 < (↑c0_0.length : Int) then some () else none) fun x => gdK none c0_0[v6.toNat]? fun l => gdK none l.head? fun x => gdK none (T.int? IntKind.i64
 x) fun n => gdK (some (decide (n > (0 : Int)))) (if (0 : Int) ≤ IntKind.i64.wrap (n - (1 : Int)) ∧ IntKind.i64.wrap (n - (1 : Int)) < (↑v1.length : Int) then some () else none) fun x => gdK (some (decide (n > (0 : Int))))
 v1[(IntKind.i64.wrap (n - (1 : Int))).toNat]? fun l => gdK (some (decide (n > (0 : Int)))) l.head? fun x => gdK (some (decide (n > (0 : Int)))) x.bool? fun b => gdK (some (bif !bif decide (n > (0 : Int)) then b else false
 then decide (n < (0 : Int)) else false)) (if (0 : Int) ≤ IntKind.i64.wrap (IntKind.i64.wrap ((0 : Int) - n) - (1 : Int)) ∧ IntKind.i64.wrap (IntKind.i64.wrap ((0 : Int) - n) - (1 : Int)) < (↑v1.length : Int) then some ()
 else none) fun x => gdK (some (bif !bif decide (n > (0 : Int)) then b else false then decide (n < (0 : Int)) else false)) v1[(IntKind.i64.wrap (IntKind.i64.wrap ((0 : Int) - n) - (1 : Int))).toNat]? fun l => gdK (some
 (bif !bif decide (n > (0 : Int)) then b else false then decide (n < (0 : Int)) else false)) l.head? fun x => gdK (some (bif !bif decide (n > (0 : Int)) then b else false then decide (n < (0 : Int)) else false)) x.bool?
 fun b_1 => bif bif bif decide (n > (0 : Int)) then b else false then true else bif decide (n < (0 : Int)) then !b_1 else false then gdK none (if (0 : Int) ≤ v6 ∧ v6 < (↑c0_1.length : Int) then some () else none) fun x =>
 gdK none c0_1[v6.toNat]? fun l => gdK none l.head? fun x => gdK none (T.int? IntKind.i64 x) fun n => O K17n3 [AV.t (T.lst 1 ev1 v1), AV.ref (Id.c 0) 0, I (IntKind.i64.wrap (v5 + n)), I (IntKind.i64.wrap (v6 + (1 : Int)))]
 [Blk.box [AV.t (T.lst 1 ec0_0 c0_0), AV.t (T.lst 1 ec0_1 c0_1), I c0_2]] else O K17n3 [AV.t (T.lst 1 ev1 v1), AV.ref (Id.c 0) 0, I v5, I (IntKind.i64.wrap (v6 + (1 : Int)))] [Blk.box [AV.t (T.lst 1 ec0_0 c0_0), AV.t
 (T.lst 1 ec0_1 c0_1), I c0_2]] else some [T.bool (decide (v5 ≥ c0_2))]) := by kernel_rfl
theorem e27 (O : Orc) (l : Int) (eh : Bool) (h : List (List T)) : stepO PROG ann O (Key.call 27) [I l, AV.t (T.lst 1 eh h)] [] =
  (gdK none (O (Key.call 34) [I l] []) fun l_1 => gdK none l_1.head? fun x => gdK none (T.int? IntKind.i64 x) fun n => gdK none (if (0 : Int) ≤ IntKind.i64.wrap (n - (1 : Int)) ∧ IntKind.i64.wrap (n - (1 : Int)) < (↑h.length
 : Int) then some () else none) fun x => gdK none h[(IntKind.i64.wrap (n - (1 : Int))).toNat]? fun l_2 => gdK none l_2.head? fun x => gdK none x.bool? fun b => some [T.bool (b == decide (l > (0 : Int)))]) := by kernel_rfl
theorem e29 (O : Orc) (ex : Bool) (x : List (List T)) (ey : Bool) (y : List (List T)) : stepO PROG ann O (Key.call 29) [AV.t (T.lst 1 ex x), AV.t (T.lst 1 ey y)] [] =
  (bif !(↑x.length : Int) == (↑y.length : Int) then some [T.bool false] else O K29n4 [AV.t (T.lst 1 ex x), AV.t (T.lst 1 ey y), I (0 : Int)] []) := by kernel_rfl
theorem e29n4 (O : Orc) (ev0 : Bool) (v0 : List (List T)) (ev1 : Bool) (v1 : List (List T)) (v5 : Int) : stepO PROG ann O K29n4 [(AV.t (T.lst 1 ev0 v0)), (AV.t (T.lst 1 ev1 v1)), (I v5)] [] =
  (bif decide (v5 < (↑v0.length : Int)) then gdK none (if (0 : Int) ≤ v5 ∧ v5 < (↑v0.length : Int) then some () else none) fun x => gdK none v0[v5.toNat]? fun l => gdK none l.head? fun x => gdK none (T.int? IntKind.i64 x)
 fun n => gdK none (if (0 : Int) ≤ v5 ∧ v5 < (↑v1.length : Int) then some () else none) fun x => gdK none v1[v5.toNat]? fun l => gdK none l.head? fun x => gdK none (T.int? IntKind.i64 x) fun n_1 => bif !n == n_1 then some
 [T.bool false] else O K29n4 [AV.t (T.lst 1 ev0 v0), AV.t (T.lst 1 ev1 v1), I (IntKind.i64.wrap (v5 + (1 : Int)))] [] else some [T.bool true]) := by kernel_rfl
theorem e23s2 (O : Orc) (x y : Int) : stepO PROG ann O (Key.call 23) [I x, I y] [] =
  (some [T.int IntKind.i64 x, T.int IntKind.i64 y]) := by kernel_rfl
theorem e30 (O : Orc) (ex : Bool) (x : List (List T)) : stepO PROG ann O (Key.call 30) [AV.t (T.lst 1 ex x)] [] =
  (O K30n3 [AV.t (T.lst 1 ex x), I (0 : Int), AV.t (T.lst 1 ex x), I (↑x.length : Int), I (0 : Int)] []) := by kernel_rfl
theorem e30n3 (O : Orc) (ev0 : Bool) (v0 : List (List T)) (v3 : Int) (ev9 : Bool) (v9 : List (List T)) (v10 : Int) (v11 : Int) : stepO PROG ann O K30n3 [(AV.t (T.lst 1 ev0 v0)), (I v3), (AV.t (T.lst 1 ev9 v9)), (I v10), (I v11)] [] =
  (bif decide (v11 < v10) then gdK none (if (0 : Int) ≤ v11 ∧ v11 < (↑v9.length : Int) then some () else none) fun x => gdK none v9[v11.toNat]? fun l => gdK none l.head? fun x => gdK none (T.lst? 1 x) fun p => bif decide
 (IntKind.i64.wrap (v3 + (↑p.snd.length : Int)) < (0 : Int)) then none else O K30n3 [AV.t (T.lst 1 ev0 v0), I (IntKind.i64.wrap (v3 + (↑p.snd.length : Int))), AV.t (T.lst 1 ev9 v9), I v10, I (IntKind.i64.wrap (v11 + (1 :
 Int)))] [] else gdK none (O (Key.call 42) [AV.t (T.lst 1 true []), I v3] []) fun l => gdK none l.head? fun x => gdK none (T.lst? 1 x) fun p => O K30n11 [AV.own (Id.c 0), AV.t (T.lst 1 ev0 v0), I (↑v0.length : Int), I (0 :
 Int)] [Blk.sl false 1 p.fst p.snd]) := by kernel_rfl
theorem e30n11 (O : Orc) (ev25 : Bool) (v25 : List (List T)) (v26 : Int) (v27 : Int) (ec0 : Bool) (c0 : List (List T)) : stepO PROG ann O K30n11 [(AV.own (Id.c 0)), (AV.t (T.lst 1 ev25 v25)), (I v26), (I v27)] [(Blk.sl false 1 ec0 c0)] =
  (bif decide (v27 < v26) then gdK none (if (0 : Int) ≤ v27 ∧ v27 < (↑v25.length : Int) then some () else none) fun x => gdK none v25[v27.toNat]? fun l => gdK none l.head? fun x => gdK none (T.lst? 1 x) fun p => gdK none
 (small 8 (c0.length + p.snd.length)) fun x => O K30n11 [AV.own (Id.c 0), AV.t (T.lst 1 ev25 v25), I v26, I (IntKind.i64.wrap (v27 + (1 : Int)))] [Blk.sl false 1 (ec0 && p.snd.isEmpty) (c0 ++ p.snd)] else some [T.lst 1 ec0
 c0]) := by kernel_rfl
end Go.Aev.Gen
