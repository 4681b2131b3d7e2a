/-
  Equations of words.Do, mean.Value and ask.Sorts, where three nodes of words are asked.
-/
import Derived.Test.YtldfekaodgfgmaaAevStep
import Derived.Test.YtldfekaodgfgmaaChecked
import Derived.KernelRfl
set_option linter.unusedSimpArgs false
set_option linter.unusedVariables false
namespace Go.Aev.Gen
open Go Go.Aev
noncomputable abbrev PROG := Go.Proofs.Try.prog
def ann : Ann := {
  live := (fun f r => match f, r with
    | 4, 21 => some [(2, none), (14, none), (16, none)]
    | 8, 8 => some [(0, none), (1, none), (2, none), (3, none), (9, none), (33, none), (34, none), (35, none)]
    | 10, 13 => some [(0, none), (1, none), (2, none), (3, none), (8, none), (10, none)]
    | 11, 11 => some [(1, none), (9, none), (11, none), (12, none)]
    | 11, 18 => some [(0, none), (1, none), (9, none), (10, none), (11, none), (13, none)]
    | 11, 25 => some [(1, none), (9, none), (10, none), (11, none), (14, none)]
    | 11, 33 => some [(3, none), (11, none), (15, none)]
    | 11, 38 => some [(9, none), (10, none), (16, none)]
    | 12, 7 => some [(0, none), (5, none), (6, some 1), (19, none), (20, none)]
    | 13, 5 => some [(3, none), (4, none), (12, none), (13, none), (14, none)]
    | 16, 7 => some [(2, none), (3, none), (5, none), (7, none), (9, some 4), (31, none), (32, none), (33, none)]
    | 16, 12 => some [(2, none), (3, none), (5, none), (7, none), (9, some 4), (10, none), (11, none), (12, some 4), (13, none), (31, none), (32, none), (33, none), (44, none), (45, none), (46, none)]
    | 21, 3 => some [(0, none), (1, none), (5, some 1), (6, none)]
    | 22, 4 => some [(0, none), (1, none), (5, some 1), (6, none), (7, none)]
    | 24, 3 => some [(0, none), (3, none), (4, none)]
    | 25, 7 => some [(3, none), (4, none), (24, none), (25, none), (26, none)]
    | 26, 8 => some [(1, none), (3, none), (5, some 1), (25, none), (26, none)]
    | 26, 18 => some [(3, none), (5, some 1), (52, none), (53, none), (54, none)]
    | 29, 41 => some [(5, none), (9, none), (12, none), (21, some 1), (174, none), (175, none), (176, none)]
    | 31, 6 => some [(2, none), (3, none), (21, none), (22, none), (23, none)]
    | 32, 4 => some [(0, none), (2, none), (10, none), (11, none), (12, none)]
    | 33, 16 => some [(1, none), (2, none), (8, none), (9, none), (12, some 1), (65, none), (66, none), (67, none)]
    | 40, 2 => some [(1, none), (2, none), (4, none), (11, none), (12, none), (13, none)]
    | 40, 6 => some [(1, none), (2, none), (4, none), (6, none), (7, none), (11, none), (12, none), (13, none), (18, none), (19, none), (20, none)]
    | 42, 7 => some [(4, none), (6, none), (7, none), (32, none), (33, none), (34, none)]
    | 45, 2 => some [(1, none), (2, none), (8, none), (9, none), (10, none)]
    | 46, 4 => some [(1, none), (2, none), (6, none), (7, none), (8, none), (19, none), (20, none), (21, none)]
    | 54, 4 => some [(0, none), (1, none), (12, none), (13, none)]
    | 57, 2 => some [(0, none), (7, none), (8, none)]
    | 66, 2 => some [(0, none), (1, none), (7, none), (8, none)]
    | 67, 2 => some [(0, none), (1, none), (7, none), (8, none)]
    | 71, 2 => some [(2, none), (5, none), (6, none), (7, none)]
    | 72, 2 => some [(0, none), (1, none), (7, none), (8, none)]
    | 73, 2 => some [(0, none), (1, none), (7, none), (8, none)]
    | 74, 4 => some [(1, none), (16, none), (17, none), (18, none)]
    | 76, 1 => some [(0, none), (1, none)]
    | 86, 1 => some [(0, none), (1, none)]
    | _, _ => none),
  join := (fun _ _ => none),
  sig := (fun _ => none),
  wr := (fun f => f == 29) }
theorem hm : PROG.follows .mixedOrders = true := by kernel_rfl
noncomputable abbrev K16n7 : Key := nodeKey PROG 16 true 7 [(2, none), (3, none), (5, none), (7, none), (9, some 4), (31, none), (32, none), (33, none)] (0, 0)
noncomputable abbrev K16n12 : Key := nodeKey PROG 16 true 12 [(2, none), (3, none), (5, none), (7, none), (9, some 4), (10, none), (11, none), (12, some 4), (13, none), (31, none), (32, none), (33, none), (44, none), (45, none), (46, none)] (0, 0)
noncomputable abbrev K25n7 : Key := nodeKey PROG 25 true 7 [(3, none), (4, none), (24, none), (25, none), (26, none)] (0, 0)
noncomputable abbrev K26n8 : Key := nodeKey PROG 26 true 8 [(1, none), (3, none), (5, some 1), (25, none), (26, none)] (0, 0)
noncomputable abbrev K26n18 : Key := nodeKey PROG 26 true 18 [(3, none), (5, some 1), (52, none), (53, none), (54, none)] (0, 0)
noncomputable abbrev K32n4 : Key := nodeKey PROG 32 true 4 [(0, none), (2, none), (10, none), (11, none), (12, none)] (0, 0)
noncomputable abbrev K33n16 : Key := nodeKey PROG 33 true 16 [(1, none), (2, none), (8, none), (9, none), (12, some 1), (65, none), (66, none), (67, none)] (0, 0)
noncomputable abbrev K8n8 : Key := nodeKey PROG 8 true 8 [(0, none), (1, none), (2, none), (3, none), (9, none), (33, none), (34, none), (35, none)] (0, 0)
noncomputable abbrev K29n41 : Key := nodeKey PROG 29 true 41 [(5, none), (9, none), (12, none), (21, some 1), (174, none), (175, none), (176, none)] (0, 0)
theorem e7 (O : Orc) (o b x y n : Int) : stepO PROG ann O (Key.call 7) [I o, I b, I x, I y, I n] [] =
  (gdK none (O (Key.call 9) [] []) fun l => gdK none l.head? fun x_1 => gdK none x_1.bool? fun b_1 => bif !b_1 then some [T.bool false] else gdK (some !bif bif bif decide (b < (1 : Int)) then true else decide (b > (8 : Int))
 then true else decide (x < (0 : Int)) then true else decide (y < (0 : Int))) (if IntKind.u64.wrap b < (0 : Int) then none else some ()) fun x_2 => gdK (some !bif bif bif bif decide (b < (1 : Int)) then true else decide (b
 > (8 : Int)) then true else decide (x < (0 : Int)) then true else decide (y < (0 : Int)) then true else decide (x ≥ IntKind.i64.wrap ((1 : Int) * (2 : Int) ^ min (IntKind.u64.wrap b).toNat 64))) (if IntKind.u64.wrap b <
 (0 : Int) then none else some ()) fun x_3 => bif bif bif bif bif bif bif bif decide (b < (1 : Int)) then true else decide (b > (8 : Int)) then true else decide (x < (0 : Int)) then true else decide (y < (0 : Int)) then
 true else decide (x ≥ IntKind.i64.wrap ((1 : Int) * (2 : Int) ^ min (IntKind.u64.wrap b).toNat 64)) then true else decide (y ≥ IntKind.i64.wrap ((1 : Int) * (2 : Int) ^ min (IntKind.u64.wrap b).toNat 64)) then true else
 decide (o ≤ (15 : Int)) then true else decide (o > (23 : Int)) then some [T.bool true] else bif bif o == (16 : Int) then true else o == (23 : Int) then bif o == (23 : Int) then gdK none (O (Key.call 8) [I o, I b, AV.t
 (T.lst 1 false [[T.int IntKind.i64 x]]), I n] []) fun l => gdK none l.head? fun x_4 => gdK none (T.int? IntKind.i64 x_4) fun n_1 => gdK none l.tail.head? fun x_5 => gdK none (T.int? IntKind.i64 x_5) fun n_2 => gdK none
 l.tail.tail.head? fun x_6 => gdK none (T.int? IntKind.i64 x_6) fun n_3 => gdK none (O (Key.call 16) [AV.agg [AV.t (T.lst 3 true []), AV.t (T.lst 5 false [[T.int IntKind.i64 (15 : Int), T.emp true, T.int IntKind.i64 x,
 T.int IntKind.i64 b, T.str (ByteArray.mk #[])], [T.int IntKind.i64 (15 : Int), T.emp true, T.int IntKind.i64 y, T.int IntKind.i64 b, T.str (ByteArray.mk #[])], [T.int IntKind.i64 o, T.lst 1 false [[T.int IntKind.i64 (0 :
 Int)]], T.int IntKind.i64 n, T.int IntKind.i64 (0 : Int), T.str (ByteArray.mk #[])]]), AV.t (T.lst 1 true [])], AV.agg [AV.t (T.lst 5 true [])]] []) fun l => gdK none l.head? fun x => gdK none (T.lst? 4 x) fun p => gdK
 none l.tail.head? fun x => gdK none (T.int? IntKind.i64 x) fun n => gdK none l.tail.tail.head? fun x => gdK none (T.int? IntKind.i64 x) fun n_4 => bif bif !n_2 == (0 : Int) then true else !n == (0 : Int) then some [T.bool
 (bif !n_2 == (0 : Int) then !n == (0 : Int) else false)] else gdK (some ((↑p.snd.length : Int) == (3 : Int))) (if (0 : Int) ≤ (2 : Int) ∧ (2 : Int) < (↑p.snd.length : Int) then some () else none) fun x => gdK (some
 ((↑p.snd.length : Int) == (3 : Int))) p.snd[2]? fun l => gdK (some ((↑p.snd.length : Int) == (3 : Int))) l.head? fun x => gdK (some ((↑p.snd.length : Int) == (3 : Int))) l.tail.head? fun x_7 => gdK (some ((↑p.snd.length :
 Int) == (3 : Int))) (T.int? IntKind.i64 x) fun n => gdK (some ((↑p.snd.length : Int) == (3 : Int))) (T.int? IntKind.i64 x_7) fun n_5 => some [T.bool (bif (↑p.snd.length : Int) == (3 : Int) then n == n_1 && (n_5 == (1 :
 Int) && true) else false)] else gdK none (O (Key.call 8) [I o, I b, AV.t (T.lst 1 false [[T.int IntKind.i64 x]]), I (0 : Int)] []) fun l => gdK none l.head? fun x_4 => gdK none (T.int? IntKind.i64 x_4) fun n => gdK none
 l.tail.head? fun x_5 => gdK none (T.int? IntKind.i64 x_5) fun n_1 => gdK none l.tail.tail.head? fun x_6 => gdK none (T.int? IntKind.i64 x_6) fun n_2 => gdK none (O (Key.call 16) [AV.agg [AV.t (T.lst 3 true []), AV.t
 (T.lst 5 false [[T.int IntKind.i64 (15 : Int), T.emp true, T.int IntKind.i64 x, T.int IntKind.i64 b, T.str (ByteArray.mk #[])], [T.int IntKind.i64 (15 : Int), T.emp true, T.int IntKind.i64 y, T.int IntKind.i64 b, T.str
 (ByteArray.mk #[])], [T.int IntKind.i64 o, T.lst 1 false [[T.int IntKind.i64 (0 : Int)]], T.int IntKind.i64 (0 : Int), T.int IntKind.i64 (0 : Int), T.str (ByteArray.mk #[])]]), AV.t (T.lst 1 true [])], AV.agg [AV.t (T.lst
 5 true [])]] []) fun l => gdK none l.head? fun x => gdK none (T.lst? 4 x) fun p => gdK none l.tail.head? fun x => gdK none (T.int? IntKind.i64 x) fun n_3 => gdK none l.tail.tail.head? fun x => gdK none (T.int? IntKind.i64
 x) fun n_4 => bif bif !n_1 == (0 : Int) then true else !n_3 == (0 : Int) then some [T.bool (bif !n_1 == (0 : Int) then !n_3 == (0 : Int) else false)] else gdK (some ((↑p.snd.length : Int) == (3 : Int))) (if (0 : Int) ≤ (2
 : Int) ∧ (2 : Int) < (↑p.snd.length : Int) then some () else none) fun x => gdK (some ((↑p.snd.length : Int) == (3 : Int))) p.snd[2]? fun l => gdK (some ((↑p.snd.length : Int) == (3 : Int))) l.head? fun x => gdK (some
 ((↑p.snd.length : Int) == (3 : Int))) l.tail.head? fun x_7 => gdK (some ((↑p.snd.length : Int) == (3 : Int))) (T.int? IntKind.i64 x) fun n_5 => gdK (some ((↑p.snd.length : Int) == (3 : Int))) (T.int? IntKind.i64 x_7) fun
 n_6 => some [T.bool (bif (↑p.snd.length : Int) == (3 : Int) then n_5 == n && (n_6 == (1 : Int) && true) else false)] else bif o == (23 : Int) then gdK none (O (Key.call 8) [I o, I b, AV.t (T.lst 1 false [[T.int
 IntKind.i64 x], [T.int IntKind.i64 y]]), I n] []) fun l => gdK none l.head? fun x_4 => gdK none (T.int? IntKind.i64 x_4) fun n_1 => gdK none l.tail.head? fun x_5 => gdK none (T.int? IntKind.i64 x_5) fun n_2 => gdK none
 l.tail.tail.head? fun x_6 => gdK none (T.int? IntKind.i64 x_6) fun n_3 => gdK none (O (Key.call 16) [AV.agg [AV.t (T.lst 3 true []), AV.t (T.lst 5 false [[T.int IntKind.i64 (15 : Int), T.emp true, T.int IntKind.i64 x,
 T.int IntKind.i64 b, T.str (ByteArray.mk #[])], [T.int IntKind.i64 (15 : Int), T.emp true, T.int IntKind.i64 y, T.int IntKind.i64 b, T.str (ByteArray.mk #[])], [T.int IntKind.i64 o, T.lst 1 false [[T.int IntKind.i64 (0 :
 Int)], [T.int IntKind.i64 (1 : Int)]], T.int IntKind.i64 n, T.int IntKind.i64 (0 : Int), T.str (ByteArray.mk #[])]]), AV.t (T.lst 1 true [])], AV.agg [AV.t (T.lst 5 true [])]] []) fun l => gdK none l.head? fun x => gdK
 none (T.lst? 4 x) fun p => gdK none l.tail.head? fun x => gdK none (T.int? IntKind.i64 x) fun n => gdK none l.tail.tail.head? fun x => gdK none (T.int? IntKind.i64 x) fun n_4 => bif bif !n_2 == (0 : Int) then true else !n
 == (0 : Int) then some [T.bool (bif !n_2 == (0 : Int) then !n == (0 : Int) else false)] else gdK (some ((↑p.snd.length : Int) == (3 : Int))) (if (0 : Int) ≤ (2 : Int) ∧ (2 : Int) < (↑p.snd.length : Int) then some () else
 none) fun x => gdK (some ((↑p.snd.length : Int) == (3 : Int))) p.snd[2]? fun l => gdK (some ((↑p.snd.length : Int) == (3 : Int))) l.head? fun x => gdK (some ((↑p.snd.length : Int) == (3 : Int))) l.tail.head? fun x_7 =>
 gdK (some ((↑p.snd.length : Int) == (3 : Int))) (T.int? IntKind.i64 x) fun n => gdK (some ((↑p.snd.length : Int) == (3 : Int))) (T.int? IntKind.i64 x_7) fun n_5 => some [T.bool (bif (↑p.snd.length : Int) == (3 : Int) then
 n == n_1 && (n_5 == (1 : Int) && true) else false)] else gdK none (O (Key.call 8) [I o, I b, AV.t (T.lst 1 false [[T.int IntKind.i64 x], [T.int IntKind.i64 y]]), I (0 : Int)] []) fun l => gdK none l.head? fun x_4 => gdK
 none (T.int? IntKind.i64 x_4) fun n => gdK none l.tail.head? fun x_5 => gdK none (T.int? IntKind.i64 x_5) fun n_1 => gdK none l.tail.tail.head? fun x_6 => gdK none (T.int? IntKind.i64 x_6) fun n_2 => gdK none (O (Key.call
 16) [AV.agg [AV.t (T.lst 3 true []), AV.t (T.lst 5 false [[T.int IntKind.i64 (15 : Int), T.emp true, T.int IntKind.i64 x, T.int IntKind.i64 b, T.str (ByteArray.mk #[])], [T.int IntKind.i64 (15 : Int), T.emp true, T.int
 IntKind.i64 y, T.int IntKind.i64 b, T.str (ByteArray.mk #[])], [T.int IntKind.i64 o, T.lst 1 false [[T.int IntKind.i64 (0 : Int)], [T.int IntKind.i64 (1 : Int)]], T.int IntKind.i64 (0 : Int), T.int IntKind.i64 (0 : Int),
 T.str (ByteArray.mk #[])]]), AV.t (T.lst 1 true [])], AV.agg [AV.t (T.lst 5 true [])]] []) fun l => gdK none l.head? fun x => gdK none (T.lst? 4 x) fun p => gdK none l.tail.head? fun x => gdK none (T.int? IntKind.i64 x)
 fun n_3 => gdK none l.tail.tail.head? fun x => gdK none (T.int? IntKind.i64 x) fun n_4 => bif bif !n_1 == (0 : Int) then true else !n_3 == (0 : Int) then some [T.bool (bif !n_1 == (0 : Int) then !n_3 == (0 : Int) else
 false)] else gdK (some ((↑p.snd.length : Int) == (3 : Int))) (if (0 : Int) ≤ (2 : Int) ∧ (2 : Int) < (↑p.snd.length : Int) then some () else none) fun x => gdK (some ((↑p.snd.length : Int) == (3 : Int))) p.snd[2]? fun l
 => gdK (some ((↑p.snd.length : Int) == (3 : Int))) l.head? fun x => gdK (some ((↑p.snd.length : Int) == (3 : Int))) l.tail.head? fun x_7 => gdK (some ((↑p.snd.length : Int) == (3 : Int))) (T.int? IntKind.i64 x) fun n_5 =>
 gdK (some ((↑p.snd.length : Int) == (3 : Int))) (T.int? IntKind.i64 x_7) fun n_6 => some [T.bool (bif (↑p.snd.length : Int) == (3 : Int) then n_5 == n && (n_6 == (1 : Int) && true) else false)]) := by kernel_rfl
theorem e16 (O : Orc) (en : Bool) (nl : List (List T)) : stepO PROG ann O (Key.call 16) [AV.agg [AV.t (T.lst 3 true []), AV.t (T.lst 5 en nl), AV.t (T.lst 1 true [])], AV.agg [AV.t (T.lst 5 true [])]] [] =
  (gdK none (O (Key.call 25) [AV.agg [AV.t (T.lst 3 true []), AV.t (T.lst 5 en nl), AV.t (T.lst 1 true [])], AV.agg [AV.t (T.lst 5 true [])]] []) fun l => gdK none l.head? fun x => gdK none (T.int? IntKind.i64 x) fun n =>
 gdK none l.tail.head? fun x => gdK none (T.int? IntKind.i64 x) fun n_1 => bif !n == (0 : Int) then some [T.emp true, T.int IntKind.i64 n, T.int IntKind.i64 n_1] else gdK none (O (Key.call 26) [AV.agg [AV.t (T.lst 3 true
 []), AV.t (T.lst 5 en nl), AV.t (T.lst 1 true [])]] []) fun l => gdK none l.head? fun x => gdK none (T.lst? 1 x) fun p => gdK none l.tail.head? fun x => gdK none (T.int? IntKind.i64 x) fun n => gdK none l.tail.tail.head?
 fun x => gdK none (T.int? IntKind.i64 x) fun n => O K16n7 [AV.ref (Id.c 0) 0, AV.ref (Id.c 1) 0, AV.ref (Id.c 2) 0, AV.t (T.lst 1 p.fst p.snd), AV.own (Id.c 3), AV.t (T.lst 5 en nl), I (↑nl.length : Int), I (0 : Int)]
 [Blk.box [AV.t (T.lst 3 true []), AV.t (T.lst 5 en nl), AV.t (T.lst 1 true [])], Blk.box [AV.t (T.lst 5 true [])], Blk.box [I (0 : Int), I (0 : Int)], Blk.sl false 4 true []]) := by kernel_rfl
theorem e16n7 (O : Orc) (ev7 : Bool) (v7 : List (List T)) (ev31 : Bool) (v31 : List (List T)) (v32 : Int) (v33 : Int) (ec0_0 : Bool) (c0_0 : List (List T)) (ec0_1 : Bool) (c0_1 : List (List T)) (ec0_2 : Bool) (c0_2 : List (List T)) (ec1 : Bool) (c1 : List (List T)) (c2_0 : Int) (c2_1 : Int) (ec3 : Bool) (c3 : List (List T)) : stepO PROG ann O K16n7 [(AV.ref (Id.c 0) 0), (AV.ref (Id.c 1) 0), (AV.ref (Id.c 2) 0), (AV.t (T.lst 1 ev7 v7)), (AV.own (Id.c 3)), (AV.t (T.lst 5 ev31 v31)), (I v32), (I v33)] [(Blk.box [(AV.t (T.lst 3 ec0_0 c0_0)), (AV.t (T.lst 5 ec0_1 c0_1)), (AV.t (T.lst 1 ec0_2 c0_2))]), (Blk.box [(AV.t (T.lst 5 ec1 c1))]), (Blk.box [(I c2_0), (I c2_1)]), (Blk.sl false 4 ec3 c3)] =
  (bif decide (v33 < v32) then gdK none (if (0 : Int) ≤ v33 ∧ v33 < (↑v31.length : Int) then some () else none) fun x => gdK none v31[v33.toNat]? fun l => gdK none l.head? fun x => gdK none l.tail.head? fun x_1 => gdK none
 l.tail.tail.head? fun x_2 => gdK none l.tail.tail.tail.head? fun x_3 => gdK none l.tail.tail.tail.tail.head? fun x_4 => gdK none (T.int? IntKind.i64 x) fun n => gdK none (T.lst? 1 x_1) fun p => gdK none (T.int?
 IntKind.i64 x_2) fun n_1 => gdK none (T.int? IntKind.i64 x_3) fun n_2 => gdK none x_4.str? fun s => gdK none (if (0 : Int) ≤ v33 ∧ v33 < (↑v7.length : Int) then some () else none) fun x => gdK none v7[v33.toNat]? fun l =>
 gdK none l.head? fun x => gdK none (T.int? IntKind.i64 x) fun n_3 => O K16n12 [AV.ref (Id.c 0) 0, AV.ref (Id.c 1) 0, AV.ref (Id.c 2) 0, AV.t (T.lst 1 ev7 v7), AV.own (Id.c 3), I v33, AV.ref (Id.c 4) 0, AV.own (Id.c 5), I
 (IntKind.i64.wrap (n_3 - (10 : Int))), AV.t (T.lst 5 ev31 v31), I v32, I v33, AV.t (T.lst 1 p.fst p.snd), I (↑p.snd.length : Int), I (0 : Int)] [Blk.box [AV.t (T.lst 3 ec0_0 c0_0), AV.t (T.lst 5 ec0_1 c0_1), AV.t (T.lst 1
 ec0_2 c0_2)], Blk.box [AV.t (T.lst 5 ec1 c1)], Blk.box [I c2_0, I c2_1], Blk.sl false 4 ec3 c3, Blk.box [I n, AV.t (T.lst 1 p.fst p.snd), I n_1, I n_2, AV.t (T.str s)], Blk.sl false 4 true []] else some [T.lst 4 ec3 c3,
 T.int IntKind.i64 (0 : Int), T.int IntKind.i64 (0 : Int)]) := by kernel_rfl
theorem e16n12 (O : Orc) (ev7 : Bool) (v7 : List (List T)) (v10 : Int) (v13 : Int) (ev31 : Bool) (v31 : List (List T)) (v32 : Int) (v33 : Int) (ev44 : Bool) (v44 : List (List T)) (v45 : Int) (v46 : Int) (ec0_0 : Bool) (c0_0 : List (List T)) (ec0_1 : Bool) (c0_1 : List (List T)) (ec0_2 : Bool) (c0_2 : List (List T)) (ec1 : Bool) (c1 : List (List T)) (c2_0 : Int) (c2_1 : Int) (ec3 : Bool) (c3 : List (List T)) (c4_0 : Int) (ec4_1 : Bool) (c4_1 : List (List T)) (c4_2 : Int) (c4_3 : Int) (c4_4 : ByteArray) (ec5 : Bool) (c5 : List (List T)) : stepO PROG ann O K16n12 [(AV.ref (Id.c 0) 0), (AV.ref (Id.c 1) 0), (AV.ref (Id.c 2) 0), (AV.t (T.lst 1 ev7 v7)), (AV.own (Id.c 3)), (I v10), (AV.ref (Id.c 4) 0), (AV.own (Id.c 5)), (I v13), (AV.t (T.lst 5 ev31 v31)), (I v32), (I v33), (AV.t (T.lst 1 ev44 v44)), (I v45), (I v46)] [(Blk.box [(AV.t (T.lst 3 ec0_0 c0_0)), (AV.t (T.lst 5 ec0_1 c0_1)), (AV.t (T.lst 1 ec0_2 c0_2))]), (Blk.box [(AV.t (T.lst 5 ec1 c1))]), (Blk.box [(I c2_0), (I c2_1)]), (Blk.sl false 4 ec3 c3), (Blk.box [(I c4_0), (AV.t (T.lst 1 ec4_1 c4_1)), (I c4_2), (I c4_3), (AV.t (T.str c4_4))]), (Blk.sl false 4 ec5 c5)] =
  (bif decide (v46 < v45) then gdK none (if (0 : Int) ≤ v46 ∧ v46 < (↑v44.length : Int) then some () else none) fun x => gdK none v44[v46.toNat]? fun l => gdK none l.head? fun x => gdK none (T.int? IntKind.i64 x) fun n =>
 gdK none (if (0 : Int) ≤ n ∧ n < (↑c3.length : Int) then some () else none) fun x => gdK none c3[n.toNat]? fun l => gdK none l.head? fun x => gdK none l.tail.head? fun x_1 => gdK none l.tail.tail.head? fun x_2 => gdK none
 l.tail.tail.tail.head? fun x_3 => gdK none (T.int? IntKind.i64 x) fun n_1 => gdK none (T.int? IntKind.i64 x_1) fun n_2 => gdK none (T.lst? 2 x_2) fun p => gdK none (T.int? IntKind.i64 x_3) fun n_3 => gdK none (O (Key.call
 27) [AV.agg [I n_1, I n_2, AV.t (T.lst 2 p.fst p.snd), I n_3]] []) fun l => gdK none l.head? fun x => gdK none (T.int? IntKind.i64 x) fun n_4 => gdK none l.tail.head? fun x => gdK none (T.int? IntKind.i64 x) fun n_5 =>
 gdK none l.tail.tail.head? fun x => gdK none (T.lst? 2 x) fun p => gdK none l.tail.tail.tail.head? fun x => gdK none (T.int? IntKind.i64 x) fun n_6 => gdK none (small 48 (c5.length + [[T.int IntKind.i64 n_4, T.int
 IntKind.i64 n_5, T.lst 2 p.fst p.snd, T.int IntKind.i64 n_6]].length)) fun x => gdK none (if (0 : Int) ≤ n ∧ n < (↑v7.length : Int) then some () else none) fun x => gdK none v7[n.toNat]? fun l => gdK none l.head? fun x =>
 gdK none (T.int? IntKind.i64 x) fun n_7 => gdK none (O (Key.call 28) [I n_7] []) fun l => gdK none l.head? fun x => gdK none x.bool? fun b => bif b then gdK none (if (0 : Int) ≤ n ∧ n < (↑v7.length : Int) then some ()
 else none) fun x => gdK none v7[n.toNat]? fun l => gdK none l.head? fun x => gdK none (T.int? IntKind.i64 x) fun n => O K16n12 [AV.ref (Id.c 0) 0, AV.ref (Id.c 1) 0, AV.ref (Id.c 2) 0, AV.t (T.lst 1 ev7 v7), AV.own (Id.c
 3), I v10, AV.ref (Id.c 4) 0, AV.own (Id.c 5), AV.t (T.int IntKind.i64 (IntKind.i64.wrap (n - (10 : Int)))), AV.t (T.lst 5 ev31 v31), I v32, I v33, AV.t (T.lst 1 ev44 v44), I v45, AV.t (T.int IntKind.i64 (IntKind.i64.wrap
 (v46 + (1 : Int))))] [Blk.box [AV.t (T.lst 3 ec0_0 c0_0), AV.t (T.lst 5 ec0_1 c0_1), AV.t (T.lst 1 ec0_2 c0_2)], Blk.box [AV.t (T.lst 5 ec1 c1)], Blk.box [I c2_0, I c2_1], Blk.sl false 4 ec3 c3, Blk.box [I c4_0, AV.t
 (T.lst 1 ec4_1 c4_1), I c4_2, I c4_3, AV.t (T.str c4_4)], Blk.sl false 4 (ec5 && false) (c5 ++ [[T.int IntKind.i64 n_4, T.int IntKind.i64 n_5, T.lst 2 p.fst p.snd, T.int IntKind.i64 n_6]])] else O K16n12 [AV.ref (Id.c 0)
 0, AV.ref (Id.c 1) 0, AV.ref (Id.c 2) 0, AV.t (T.lst 1 ev7 v7), AV.own (Id.c 3), I v10, AV.ref (Id.c 4) 0, AV.own (Id.c 5), I v13, AV.t (T.lst 5 ev31 v31), I v32, I v33, AV.t (T.lst 1 ev44 v44), I v45, AV.t (T.int
 IntKind.i64 (IntKind.i64.wrap (v46 + (1 : Int))))] [Blk.box [AV.t (T.lst 3 ec0_0 c0_0), AV.t (T.lst 5 ec0_1 c0_1), AV.t (T.lst 1 ec0_2 c0_2)], Blk.box [AV.t (T.lst 5 ec1 c1)], Blk.box [I c2_0, I c2_1], Blk.sl false 4 ec3
 c3, Blk.box [I c4_0, AV.t (T.lst 1 ec4_1 c4_1), I c4_2, I c4_3, AV.t (T.str c4_4)], Blk.sl false 4 (ec5 && false) (c5 ++ [[T.int IntKind.i64 n_4, T.int IntKind.i64 n_5, T.lst 2 p.fst p.snd, T.int IntKind.i64 n_6]])] else
 gdK none (if (0 : Int) ≤ v10 ∧ v10 < (↑v7.length : Int) then some () else none) fun x => gdK none v7[v10.toNat]? fun l => gdK none l.head? fun x => gdK none (T.int? IntKind.i64 x) fun n => gdK none (O (Key.call 29)
 [AV.agg [AV.t (T.lst 3 ec0_0 c0_0), AV.t (T.lst 5 ec0_1 c0_1), AV.t (T.lst 1 ec0_2 c0_2)], AV.agg [AV.t (T.lst 5 ec1 c1)], I n, AV.agg [I c4_0, AV.t (T.lst 1 ec4_1 c4_1), I c4_2, I c4_3, AV.t (T.str c4_4)], AV.t (T.lst 4
 ec5 c5), I v13] []) fun l => gdK none l.head? fun x => gdK none (T.int? IntKind.i64 x) fun n => gdK none l.tail.head? fun x => gdK none (T.int? IntKind.i64 x) fun n_1 => gdK none l.tail.tail.head? fun x => gdK none
 (T.lst? 2 x) fun p => gdK none l.tail.tail.tail.head? fun x => gdK none (T.int? IntKind.i64 x) fun n_2 => gdK none (List.drop 4 l).head? fun x => gdK none x.bool? fun b => bif !b then some [T.emp true, T.int IntKind.i64
 (10 : Int), T.int IntKind.i64 v10] else gdK none (small 48 (c3.length + [[T.int IntKind.i64 n, T.int IntKind.i64 n_1, T.lst 2 p.fst p.snd, T.int IntKind.i64 n_2]].length)) fun x => O K16n7 [AV.ref (Id.c 0) 0, AV.ref (Id.c
 1) 0, AV.ref (Id.c 2) 0, AV.t (T.lst 1 ev7 v7), AV.own (Id.c 3), AV.t (T.lst 5 ev31 v31), I v32, I (IntKind.i64.wrap (v33 + (1 : Int)))] [Blk.box [AV.t (T.lst 3 ec0_0 c0_0), AV.t (T.lst 5 ec0_1 c0_1), AV.t (T.lst 1 ec0_2
 c0_2)], Blk.box [AV.t (T.lst 5 ec1 c1)], Blk.box [I c2_0, I c2_1], Blk.sl false 4 (ec3 && false) (c3 ++ [[T.int IntKind.i64 n, T.int IntKind.i64 n_1, T.lst 2 p.fst p.snd, T.int IntKind.i64 n_2]])]) := by kernel_rfl
theorem e25 (O : Orc) (en : Bool) (nl : List (List T)) : stepO PROG ann O (Key.call 25) [AV.agg [AV.t (T.lst 3 true []), AV.t (T.lst 5 en nl), AV.t (T.lst 1 true [])], AV.agg [AV.t (T.lst 5 true [])]] [] =
  (gdK none (O (Key.call 30) [AV.agg [AV.t (T.lst 3 true []), AV.t (T.lst 5 en nl), AV.t (T.lst 1 true [])]] []) fun l => gdK none l.head? fun x => gdK none (T.int? IntKind.i64 x) fun n => gdK none l.tail.head? fun x => gdK
 none (T.int? IntKind.i64 x) fun n_1 => bif !n == (0 : Int) then some [T.int IntKind.i64 n, T.int IntKind.i64 n_1] else O K25n7 [AV.ref (Id.c 0) 0, AV.ref (Id.c 1) 0, AV.t (T.lst 3 true []), I (↑0 : Int), I (0 : Int)]
 [Blk.box [AV.t (T.lst 5 true [])], Blk.box [I (0 : Int), I (0 : Int)]]) := by kernel_rfl
theorem e25n7 (O : Orc) (ev24 : Bool) (v24 : List (List T)) (v25 : Int) (v26 : Int) (ec0 : Bool) (c0 : List (List T)) (c1_0 : Int) (c1_1 : Int) : stepO PROG ann O K25n7 [(AV.ref (Id.c 0) 0), (AV.ref (Id.c 1) 0), (AV.t (T.lst 3 ev24 v24)), (I v25), (I v26)] [(Blk.box [(AV.t (T.lst 5 ec0 c0))]), (Blk.box [(I c1_0), (I c1_1)])] =
  (bif decide (v26 < v25) then gdK none (if (0 : Int) ≤ v26 ∧ v26 < (↑v24.length : Int) then some () else none) fun x => gdK none v24[v26.toNat]? fun l => gdK none l.head? fun x => gdK none l.tail.head? fun x_1 => gdK none
 l.tail.tail.head? fun x_2 => gdK none x.str? fun s => gdK none (T.lst? 1 x_1) fun p => gdK none (T.int? IntKind.i64 x_2) fun n => gdK none (if (0 : Int) ≤ v26 ∧ v26 < (↑c0.length : Int) then some () else none) fun x =>
 gdK none c0[v26.toNat]? fun l => gdK none l.head? fun x => gdK none l.tail.head? fun x_3 => gdK none l.tail.tail.head? fun x_4 => gdK none l.tail.tail.tail.head? fun x_5 => gdK none l.tail.tail.tail.tail.head? fun x_6 =>
 gdK none (T.lst? 5 x) fun p_1 => gdK none (T.int? IntKind.i64 x_3) fun n_1 => gdK none (T.int? IntKind.i64 x_4) fun n_2 => gdK none (T.lst? 2 x_5) fun p_2 => gdK none (T.int? IntKind.i64 x_6) fun n_3 => gdK none (O
 (Key.call 31) [AV.agg [AV.t (T.str s), AV.t (T.lst 1 p.fst p.snd), I n], AV.agg [AV.t (T.lst 5 p_1.fst p_1.snd), I n_1, I n_2, AV.t (T.lst 2 p_2.fst p_2.snd), I n_3]] []) fun l => gdK none l.head? fun x => gdK none
 (T.int? IntKind.i64 x) fun n => bif !n == (0 : Int) then some [T.int IntKind.i64 n, T.int IntKind.i64 v26] else O K25n7 [AV.ref (Id.c 0) 0, AV.ref (Id.c 1) 0, AV.t (T.lst 3 ev24 v24), I v25, I (IntKind.i64.wrap (v26 + (1
 : Int)))] [Blk.box [AV.t (T.lst 5 ec0 c0)], Blk.box [I c1_0, I c1_1]] else some [T.int IntKind.i64 (0 : Int), T.int IntKind.i64 (0 : Int)]) := by kernel_rfl
theorem e26 (O : Orc) (en : Bool) (nl : List (List T)) : stepO PROG ann O (Key.call 26) [AV.agg [AV.t (T.lst 3 true []), AV.t (T.lst 5 en nl), AV.t (T.lst 1 true [])]] [] =
  (gdK none (O (Key.call 32) [AV.t (T.lst 3 true [])] []) fun l => gdK none l.head? fun x => gdK none (T.int? IntKind.i64 x) fun n => gdK none l.tail.head? fun x => gdK none (T.int? IntKind.i64 x) fun n_1 => bif !n == (0 :
 Int) then some [T.emp true, T.int IntKind.i64 n, T.int IntKind.i64 n_1] else bif decide ((↑nl.length : Int) > (200 : Int)) then some [T.emp true, T.int IntKind.i64 (2 : Int), T.int IntKind.i64 (0 : Int)] else O K26n8
 [AV.ref (Id.c 0) 0, AV.ref (Id.c 1) 0, AV.own (Id.c 2), I (↑nl.length : Int), I (0 : Int)] [Blk.box [AV.t (T.lst 3 true []), AV.t (T.lst 5 en nl), AV.t (T.lst 1 true [])], Blk.box [I (0 : Int), I (0 : Int)], Blk.sl false
 1 true []]) := by kernel_rfl
theorem e26n8 (O : Orc) (v25 : Int) (v26 : Int) (ec0_0 : Bool) (c0_0 : List (List T)) (ec0_1 : Bool) (c0_1 : List (List T)) (ec0_2 : Bool) (c0_2 : List (List T)) (c1_0 : Int) (c1_1 : Int) (ec2 : Bool) (c2 : List (List T)) : stepO PROG ann O K26n8 [(AV.ref (Id.c 0) 0), (AV.ref (Id.c 1) 0), (AV.own (Id.c 2)), (I v25), (I v26)] [(Blk.box [(AV.t (T.lst 3 ec0_0 c0_0)), (AV.t (T.lst 5 ec0_1 c0_1)), (AV.t (T.lst 1 ec0_2 c0_2))]), (Blk.box [(I c1_0), (I c1_1)]), (Blk.sl false 1 ec2 c2)] =
  (bif decide (v26 < v25) then gdK none (O (Key.call 33) [AV.agg [AV.t (T.lst 3 ec0_0 c0_0), AV.t (T.lst 5 ec0_1 c0_1), AV.t (T.lst 1 ec0_2 c0_2)], I v26, AV.t (T.lst 1 ec2 c2)] []) fun l => gdK none l.head? fun x => gdK
 none (T.int? IntKind.i64 x) fun n => gdK none l.tail.head? fun x => gdK none (T.int? IntKind.i64 x) fun n_1 => bif !n_1 == (0 : Int) then some [T.emp true, T.int IntKind.i64 n_1, T.int IntKind.i64 v26] else gdK none
 (small 8 (c2.length + [[T.int IntKind.i64 n]].length)) fun x => O K26n8 [AV.ref (Id.c 0) 0, AV.ref (Id.c 1) 0, AV.own (Id.c 2), I v25, I (IntKind.i64.wrap (v26 + (1 : Int)))] [Blk.box [AV.t (T.lst 3 ec0_0 c0_0), AV.t
 (T.lst 5 ec0_1 c0_1), AV.t (T.lst 1 ec0_2 c0_2)], Blk.box [I c1_0, I c1_1], Blk.sl false 1 (ec2 && false) (c2 ++ [[T.int IntKind.i64 n]])] else bif decide ((↑c0_2.length : Int) > (200 : Int)) then some [T.emp true, T.int
 IntKind.i64 (2 : Int), T.int IntKind.i64 (0 : Int)] else O K26n18 [AV.ref (Id.c 0) 0, AV.own (Id.c 1), AV.t (T.lst 1 ec0_2 c0_2), I (↑c0_2.length : Int), I (0 : Int)] [Blk.box [I c1_0, I c1_1], Blk.sl false 1 ec2 c2]) := by kernel_rfl
theorem e26n18 (O : Orc) (ev52 : Bool) (v52 : List (List T)) (v53 : Int) (v54 : Int) (c0_0 : Int) (c0_1 : Int) (ec1 : Bool) (c1 : List (List T)) : stepO PROG ann O K26n18 [(AV.ref (Id.c 0) 0), (AV.own (Id.c 1)), (AV.t (T.lst 1 ev52 v52)), (I v53), (I v54)] [(Blk.box [(I c0_0), (I c0_1)]), (Blk.sl false 1 ec1 c1)] =
  (bif decide (v54 < v53) then gdK none (if (0 : Int) ≤ v54 ∧ v54 < (↑v52.length : Int) then some () else none) fun x => gdK none v52[v54.toNat]? fun l => gdK none l.head? fun x => gdK none (T.int? IntKind.i64 x) fun n =>
 bif bif decide (n < (0 : Int)) then true else decide (n ≥ (↑c1.length : Int)) then some [T.emp true, T.int IntKind.i64 (3 : Int), T.int IntKind.i64 v54] else gdK none (if (0 : Int) ≤ n ∧ n < (↑c1.length : Int) then some
 () else none) fun x => gdK none c1[n.toNat]? fun l => gdK none l.head? fun x => gdK none (T.int? IntKind.i64 x) fun n => bif !n == (1 : Int) then some [T.emp true, T.int IntKind.i64 (8 : Int), T.int IntKind.i64 v54] else
 O K26n18 [AV.ref (Id.c 0) 0, AV.own (Id.c 1), AV.t (T.lst 1 ev52 v52), I v53, I (IntKind.i64.wrap (v54 + (1 : Int)))] [Blk.box [I c0_0, I c0_1], Blk.sl false 1 ec1 c1] else some [T.lst 1 ec1 c1, T.int IntKind.i64 (0 :
 Int), T.int IntKind.i64 (0 : Int)]) := by kernel_rfl
theorem e27 (O : Orc) (p q r : Int) (ec : Bool) (cl : List (List T)) : stepO PROG ann O (Key.call 27) [AV.agg [I p, I q, AV.t (T.lst 2 ec cl), I r]] [] =
  (gdK none (O (Key.call 34) [AV.t (T.lst 2 ec cl)] []) fun l => gdK none l.head? fun x => gdK none (T.lst? 2 x) fun p_1 => some [T.int IntKind.i64 p, T.int IntKind.i64 q, T.lst 2 p_1.fst p_1.snd, T.int IntKind.i64 r]) := by kernel_rfl
theorem e28 (O : Orc) (s : Int) : stepO PROG ann O (Key.call 28) [I s] [] =
  (some [T.bool (bif decide (s > (10 : Int)) then decide (s ≤ (18 : Int)) else false)]) := by kernel_rfl
theorem e30 (O : Orc) (en : Bool) (nl : List (List T)) : stepO PROG ann O (Key.call 30) [AV.agg [AV.t (T.lst 3 true []), AV.t (T.lst 5 en nl), AV.t (T.lst 1 true [])]] [] =
  (gdK none (O (Key.call 26) [AV.agg [AV.t (T.lst 3 true []), AV.t (T.lst 5 en nl), AV.t (T.lst 1 true [])]] []) fun l => gdK none l.head? fun x => gdK none (T.lst? 1 x) fun p => gdK none l.tail.head? fun x => gdK none
 (T.int? IntKind.i64 x) fun n => gdK none l.tail.tail.head? fun x => gdK none (T.int? IntKind.i64 x) fun n_1 => some [T.int IntKind.i64 n, T.int IntKind.i64 n_1]) := by kernel_rfl
theorem e32 (O : Orc) (ed : Bool) (dl : List (List T)) : stepO PROG ann O (Key.call 32) [AV.t (T.lst 3 ed dl)] [] =
  (bif decide ((↑dl.length : Int) > (30 : Int)) then some [T.int IntKind.i64 (2 : Int), T.int IntKind.i64 (0 : Int)] else O K32n4 [AV.t (T.lst 3 ed dl), AV.ref (Id.c 0) 0, AV.t (T.lst 3 ed dl), I (↑dl.length : Int), I (0 :
 Int)] [Blk.box [I (0 : Int), I (0 : Int)]]) := by kernel_rfl
theorem e32n4 (O : Orc) (ev0 : Bool) (v0 : List (List T)) (ev10 : Bool) (v10 : List (List T)) (v11 : Int) (v12 : Int) (c0_0 : Int) (c0_1 : Int) : stepO PROG ann O K32n4 [(AV.t (T.lst 3 ev0 v0)), (AV.ref (Id.c 0) 0), (AV.t (T.lst 3 ev10 v10)), (I v11), (I v12)] [(Blk.box [(I c0_0), (I c0_1)])] =
  (bif decide (v12 < v11) then gdK none (if (0 : Int) ≤ v12 ∧ v12 < (↑v10.length : Int) then some () else none) fun x => gdK none v10[v12.toNat]? fun l => gdK none l.head? fun x => gdK none l.tail.head? fun x_1 => gdK none
 l.tail.tail.head? fun x_2 => gdK none x.str? fun s => gdK none (T.lst? 1 x_1) fun p => gdK none (T.int? IntKind.i64 x_2) fun n => gdK none (O (Key.call 57) [AV.t (T.str s)] []) fun l => gdK none l.head? fun x => gdK none
 x.bool? fun b => bif !b then some [T.int IntKind.i64 (12 : Int), T.int IntKind.i64 v12] else gdK none (inB (0 : Int) v12 (↑v0.length : Int)) fun x => gdK none (O (Key.call 58) [AV.t (T.lst 3 ev0 (sub (0 : Int) v12 v0)),
 AV.fn 59 [] [AV.t (T.ptr [T.str s, T.lst 1 p.fst p.snd, T.int IntKind.i64 n])]] []) fun l => gdK none l.head? fun x => gdK none x.bool? fun b => bif b then some [T.int IntKind.i64 (7 : Int), T.int IntKind.i64 v12] else
 bif decide ((↑p.snd.length : Int) > (8 : Int)) then some [T.int IntKind.i64 (9 : Int), T.int IntKind.i64 v12] else gdK none (O (Key.call 60) [I n] []) fun l => gdK none l.head? fun x => gdK none x.bool? fun b => bif !b
 then bif !b then some [T.int IntKind.i64 (4 : Int), T.int IntKind.i64 v12] else O K32n4 [AV.t (T.lst 3 ev0 v0), AV.ref (Id.c 0) 0, AV.t (T.lst 3 ev10 v10), I v11, I (IntKind.i64.wrap (v12 + (1 : Int)))] [Blk.box [I c0_0,
 I c0_1]] else gdK none (O (Key.call 50) [AV.t (T.lst 1 p.fst p.snd), AV.fn 61 [] []] []) fun l => gdK none l.head? fun x => gdK none x.bool? fun b => bif b then bif b then some [T.int IntKind.i64 (4 : Int), T.int
 IntKind.i64 v12] else O K32n4 [AV.t (T.lst 3 ev0 v0), AV.ref (Id.c 0) 0, AV.t (T.lst 3 ev10 v10), I v11, AV.t (T.int IntKind.i64 (IntKind.i64.wrap (v12 + (1 : Int))))] [Blk.box [I c0_0, I c0_1]] else bif bif n == (5 :
 Int) then decide ((↑p.snd.length : Int) > (0 : Int)) else false then some [T.int IntKind.i64 (4 : Int), T.int IntKind.i64 v12] else O K32n4 [AV.t (T.lst 3 ev0 v0), AV.ref (Id.c 0) 0, AV.t (T.lst 3 ev10 v10), I v11, AV.t
 (T.int IntKind.i64 (IntKind.i64.wrap (v12 + (1 : Int))))] [Blk.box [I c0_0, I c0_1]] else some [T.int IntKind.i64 (0 : Int), T.int IntKind.i64 (0 : Int)]) := by kernel_rfl
theorem e33 (O : Orc) (en : Bool) (nl : List (List T)) (i : Int) (es : Bool) (sl : List (List T)) : stepO PROG ann O (Key.call 33) [AV.agg [AV.t (T.lst 3 true []), AV.t (T.lst 5 en nl), AV.t (T.lst 1 true [])], I i, AV.t (T.lst 1 es sl)] [] =
  (gdK none (if (0 : Int) ≤ i ∧ i < (↑nl.length : Int) then some () else none) fun x => gdK none nl[i.toNat]? fun l => gdK none l.head? fun x => gdK none l.tail.head? fun x_1 => gdK none l.tail.tail.head? fun x_2 => gdK none
 l.tail.tail.tail.head? fun x_3 => gdK none l.tail.tail.tail.tail.head? fun x_4 => gdK none (T.int? IntKind.i64 x) fun n => gdK none (T.lst? 1 x_1) fun p => gdK none (T.int? IntKind.i64 x_2) fun n_1 => gdK none (T.int?
 IntKind.i64 x_3) fun n_2 => gdK none x_4.str? fun s => bif bif decide (n < (1 : Int)) then true else decide (n > (25 : Int)) then some [T.int IntKind.i64 (0 : Int), T.int IntKind.i64 (4 : Int)] else gdK none (O (Key.call
 62) [I n] []) fun l => gdK none l.head? fun x => gdK none (T.int? IntKind.i64 x) fun n_3 => bif n == (9 : Int) then gdK none (O (Key.call 41) [AV.agg [AV.t (T.lst 3 true []), AV.t (T.lst 5 en nl), AV.t (T.lst 1 true [])],
 AV.t (T.str s)] []) fun l => gdK none l.head? fun x => gdK none (T.int? IntKind.i64 x) fun n => bif decide (n < (0 : Int)) then some [T.int IntKind.i64 (0 : Int), T.int IntKind.i64 (6 : Int)] else gdK none (if (0 : Int) ≤
 n ∧ n < (↑0 : Int) then some () else none) fun x => none else bif bif bif decide (n_3 ≥ (0 : Int)) then !(↑p.snd.length : Int) == n_3 else false then true else decide ((↑p.snd.length : Int) > (8 : Int)) then some [T.int
 IntKind.i64 (0 : Int), T.int IntKind.i64 (9 : Int)] else O K33n16 [I i, AV.t (T.lst 1 es sl), AV.ref (Id.c 0) 0, AV.ref (Id.c 1) 0, AV.own (Id.c 2), AV.t (T.lst 1 p.fst p.snd), I (↑p.snd.length : Int), I (0 : Int)]
 [Blk.box [I n, AV.t (T.lst 1 p.fst p.snd), I n_1, I n_2, AV.t (T.str s)], Blk.box [AV.t (T.str (ByteArray.mk #[])), AV.t (T.emp true), I (0 : Int)], Blk.sl false 1 true []]) := by kernel_rfl
theorem e33n16 (O : Orc) (v1 : Int) (ev2 : Bool) (v2 : List (List T)) (ev65 : Bool) (v65 : List (List T)) (v66 : Int) (v67 : Int) (c0_0 : Int) (ec0_1 : Bool) (c0_1 : List (List T)) (c0_2 : Int) (c0_3 : Int) (c0_4 : ByteArray) (c1_0 : ByteArray) (ec1_1 : Bool) (c1_2 : Int) (ec2 : Bool) (c2 : List (List T)) : stepO PROG ann O K33n16 [(I v1), (AV.t (T.lst 1 ev2 v2)), (AV.ref (Id.c 0) 0), (AV.ref (Id.c 1) 0), (AV.own (Id.c 2)), (AV.t (T.lst 1 ev65 v65)), (I v66), (I v67)] [(Blk.box [(I c0_0), (AV.t (T.lst 1 ec0_1 c0_1)), (I c0_2), (I c0_3), (AV.t (T.str c0_4))]), (Blk.box [(AV.t (T.str c1_0)), (AV.t (T.emp ec1_1)), (I c1_2)]), (Blk.sl false 1 ec2 c2)] =
  (bif decide (v67 < v66) then gdK none (if (0 : Int) ≤ v67 ∧ v67 < (↑v65.length : Int) then some () else none) fun x => gdK none v65[v67.toNat]? fun l => gdK none l.head? fun x => gdK none (T.int? IntKind.i64 x) fun n =>
 bif bif decide (n < (0 : Int)) then true else decide (n ≥ v1) then some [T.int IntKind.i64 (0 : Int), T.int IntKind.i64 (3 : Int)] else gdK none (if (0 : Int) ≤ n ∧ n < (↑v2.length : Int) then some () else none) fun x =>
 gdK none v2[n.toNat]? fun l => gdK none l.head? fun x => gdK none (T.int? IntKind.i64 x) fun n => gdK none (small 8 (c2.length + [[T.int IntKind.i64 n]].length)) fun x => O K33n16 [I v1, AV.t (T.lst 1 ev2 v2), AV.ref
 (Id.c 0) 0, AV.ref (Id.c 1) 0, AV.own (Id.c 2), AV.t (T.lst 1 ev65 v65), I v66, I (IntKind.i64.wrap (v67 + (1 : Int)))] [Blk.box [I c0_0, AV.t (T.lst 1 ec0_1 c0_1), I c0_2, I c0_3, AV.t (T.str c0_4)], Blk.box [AV.t (T.str
 c1_0), AV.t (T.emp ec1_1), I c1_2], Blk.sl false 1 (ec2 && false) (c2 ++ [[T.int IntKind.i64 n]])] else gdK none (O (Key.call 63) [AV.agg [I c0_0, AV.t (T.lst 1 ec0_1 c0_1), I c0_2, I c0_3, AV.t (T.str c0_4)]] []) fun l
 => gdK none l.head? fun x => gdK none x.bool? fun b => bif !b then some [T.int IntKind.i64 (0 : Int), T.int IntKind.i64 (5 : Int)] else gdK none (O (Key.call 64) [AV.agg [I c0_0, AV.t (T.lst 1 ec0_1 c0_1), I c0_2, I c0_3,
 AV.t (T.str c0_4)]] []) fun l => gdK none l.head? fun x => gdK none x.bool? fun b => bif !b then some [T.int IntKind.i64 (0 : Int), T.int IntKind.i64 (3 : Int)] else gdK none (O (Key.call 65) [AV.agg [I c0_0, AV.t (T.lst
 1 ec0_1 c0_1), I c0_2, I c0_3, AV.t (T.str c0_4)], AV.t (T.lst 1 ec2 c2), AV.agg [AV.t (T.str c1_0), AV.t (T.lst 1 ec1_1 []), I c1_2]] []) fun l => gdK none l.head? fun x => gdK none (T.int? IntKind.i64 x) fun n => bif n
 == (0 : Int) then some [T.int IntKind.i64 (0 : Int), T.int IntKind.i64 (8 : Int)] else some [T.int IntKind.i64 n, T.int IntKind.i64 (0 : Int)]) := by kernel_rfl
theorem e34 (O : Orc) (ec : Bool) (cl : List (List T)) : stepO PROG ann O (Key.call 34) [AV.t (T.lst 2 ec cl)] [] =
  (bif ec then some [T.emp true] else gdK none (small 16 (0 + cl.length)) fun x => some [T.lst 2 false cl]) := by kernel_rfl
theorem e44 (O : Orc) (s : Int) : stepO PROG ann O (Key.call 44) [I s] [] =
  (some [T.int IntKind.i64 s, T.int IntKind.i64 (1 : Int), T.emp true, T.int IntKind.i64 (0 : Int)]) := by kernel_rfl
theorem e14 (O : Orc) (c a : Int) : stepO PROG ann O (Key.call 14) [I c, I a] [] =
  (some [T.int IntKind.i64 c, T.int IntKind.i64 a]) := by kernel_rfl
theorem e17 (O : Orc) (n : Int) : stepO PROG ann O (Key.call 17) [I n] [] =
  (some [T.bool (bif decide (n ≥ (1 : Int)) then decide (n ≤ (8 : Int)) else false)]) := by kernel_rfl
theorem e18 (O : Orc) (n : Int) : stepO PROG ann O (Key.call 18) [I n] [] =
  (bif n == (15 : Int) then some [T.int IntKind.i64 (0 : Int)] else bif n == (16 : Int) then bif n == (16 : Int) then some [T.int IntKind.i64 (1 : Int)] else some [T.int IntKind.i64 (2 : Int)] else bif n == (23 : Int) then
 some [T.int IntKind.i64 (1 : Int)] else some [T.int IntKind.i64 (2 : Int)]) := by kernel_rfl
theorem e19 (O : Orc) (n b : Int) : stepO PROG ann O (Key.call 19) [I n, I b] [] =
  (gdK (some (decide (n ≥ (0 : Int)))) (if b < (0 : Int) then none else some ()) fun x => some [T.bool (bif decide (n ≥ (0 : Int)) then decide (n < IntKind.i64.wrap ((1 : Int) * (2 : Int) ^ min b.toNat 64)) else false)]) := by kernel_rfl
theorem e20 (O : Orc) (n b c : Int) : stepO PROG ann O (Key.call 20) [I n, I b, I c] [] =
  (bif n == (15 : Int) then gdK none (O (Key.call 19) [I c, I b] []) fun l => gdK none l.head? fun x => gdK none x.bool? fun b => some [T.bool b] else bif n == (23 : Int) then some [T.bool (bif decide (c ≥ (0 : Int)) then
 decide (c ≤ (8 : Int)) else false)] else some [T.bool (c == (0 : Int))]) := by kernel_rfl
theorem e8 (O : Orc) (o b : Int) (en : Bool) (l : List (List T)) (n : Int) : stepO PROG ann O (Key.call 8) [I o, I b, AV.t (T.lst 1 en l), I n] [] =
  (bif bif decide (o < (15 : Int)) then true else decide (o > (23 : Int)) then some [T.int IntKind.i64 (0 : Int), T.int IntKind.i64 (4 : Int), T.int IntKind.i64 (0 : Int)] else gdK none (O (Key.call 17) [I b] []) fun l_1 =>
 gdK none l_1.head? fun x => gdK none x.bool? fun b_1 => bif !b_1 then some [T.int IntKind.i64 (0 : Int), T.int IntKind.i64 (3 : Int), T.int IntKind.i64 (-1 : Int)] else gdK none (O (Key.call 18) [I o] []) fun l_2 => gdK
 none l_2.head? fun x => gdK none (T.int? IntKind.i64 x) fun n_1 => bif !(↑l.length : Int) == n_1 then some [T.int IntKind.i64 (0 : Int), T.int IntKind.i64 (9 : Int), T.int IntKind.i64 (0 : Int)] else O K8n8 [I o, I b,
 AV.t (T.lst 1 en l), I n, AV.ref (Id.c 0) 0, AV.t (T.lst 1 en l), I (↑l.length : Int), I (0 : Int)] [Blk.box [I (0 : Int), I (0 : Int)]]) := by kernel_rfl
theorem e8n8 (O : Orc) (v0 : Int) (v1 : Int) (ev2 : Bool) (v2 : List (List T)) (v3 : Int) (ev33 : Bool) (v33 : List (List T)) (v34 : Int) (v35 : Int) (c0_0 : Int) (c0_1 : Int) : stepO PROG ann O K8n8 [(I v0), (I v1), (AV.t (T.lst 1 ev2 v2)), (I v3), (AV.ref (Id.c 0) 0), (AV.t (T.lst 1 ev33 v33)), (I v34), (I v35)] [(Blk.box [(I c0_0), (I c0_1)])] =
  (bif decide (v35 < v34) then gdK none (if (0 : Int) ≤ v35 ∧ v35 < (↑v33.length : Int) then some () else none) fun x => gdK none v33[v35.toNat]? fun l => gdK none l.head? fun x => gdK none (T.int? IntKind.i64 x) fun n =>
 gdK none (O (Key.call 19) [I n, I v1] []) fun l => gdK none l.head? fun x => gdK none x.bool? fun b => bif !b then some [T.int IntKind.i64 (0 : Int), T.int IntKind.i64 (3 : Int), T.int IntKind.i64 v35] else O K8n8 [I v0,
 I v1, AV.t (T.lst 1 ev2 v2), I v3, AV.ref (Id.c 0) 0, AV.t (T.lst 1 ev33 v33), I v34, I (IntKind.i64.wrap (v35 + (1 : Int)))] [Blk.box [I c0_0, I c0_1]] else gdK none (O (Key.call 20) [I v0, I v1, I v3] []) fun l => gdK
 none l.head? fun x => gdK none x.bool? fun b => bif !b then some [T.int IntKind.i64 (0 : Int), T.int IntKind.i64 (5 : Int), T.int IntKind.i64 (0 : Int)] else bif v0 == (16 : Int) then gdK none (if (0 : Int) ≤ (0 : Int) ∧
 (0 : Int) < (↑v2.length : Int) then some () else none) fun x => gdK none v2[0]? fun l => gdK none l.head? fun x => gdK none (T.int? IntKind.i64 x) fun n => gdK none (if v1 < (0 : Int) then none else some ()) fun x => some
 [T.int IntKind.i64 (IntKind.i64.wrap (↑(BitVec.ofInt 64 (IntKind.i64.wrap (↑(BitVec.ofInt 64 (if IntKind.i64.signed = true then (-1 : Int) else IntKind.i64.max) ^^^ BitVec.ofInt 64 n).toNat : Int)) &&& BitVec.ofInt 64
 (IntKind.i64.wrap (IntKind.i64.wrap ((1 : Int) * (2 : Int) ^ min v1.toNat 64) - (1 : Int)))).toNat : Int)), T.int IntKind.i64 (0 : Int), T.int IntKind.i64 (0 : Int)] else bif v0 == (17 : Int) then gdK none (if (0 : Int) ≤
 (0 : Int) ∧ (0 : Int) < (↑v2.length : Int) then some () else none) fun x => gdK none v2[0]? fun l => gdK none l.head? fun x => gdK none (T.int? IntKind.i64 x) fun n => gdK none (if (0 : Int) ≤ (1 : Int) ∧ (1 : Int) <
 (↑v2.length : Int) then some () else none) fun x => gdK none v2[1]? fun l => gdK none l.head? fun x => gdK none (T.int? IntKind.i64 x) fun n_1 => gdK none (if v1 < (0 : Int) then none else some ()) fun x => some [T.int
 IntKind.i64 (IntKind.i64.wrap (↑(BitVec.ofInt 64 (IntKind.i64.wrap (↑(BitVec.ofInt 64 n &&& BitVec.ofInt 64 n_1).toNat : Int)) &&& BitVec.ofInt 64 (IntKind.i64.wrap (IntKind.i64.wrap ((1 : Int) * (2 : Int) ^ min v1.toNat
 64) - (1 : Int)))).toNat : Int)), T.int IntKind.i64 (0 : Int), T.int IntKind.i64 (0 : Int)] else bif v0 == (18 : Int) then gdK none (if (0 : Int) ≤ (0 : Int) ∧ (0 : Int) < (↑v2.length : Int) then some () else none) fun x
 => gdK none v2[0]? fun l => gdK none l.head? fun x => gdK none (T.int? IntKind.i64 x) fun n => gdK none (if (0 : Int) ≤ (1 : Int) ∧ (1 : Int) < (↑v2.length : Int) then some () else none) fun x => gdK none v2[1]? fun l =>
 gdK none l.head? fun x => gdK none (T.int? IntKind.i64 x) fun n_1 => gdK none (if v1 < (0 : Int) then none else some ()) fun x => some [T.int IntKind.i64 (IntKind.i64.wrap (↑(BitVec.ofInt 64 (IntKind.i64.wrap
 (↑(BitVec.ofInt 64 n ||| BitVec.ofInt 64 n_1).toNat : Int)) &&& BitVec.ofInt 64 (IntKind.i64.wrap (IntKind.i64.wrap ((1 : Int) * (2 : Int) ^ min v1.toNat 64) - (1 : Int)))).toNat : Int)), T.int IntKind.i64 (0 : Int),
 T.int IntKind.i64 (0 : Int)] else bif v0 == (19 : Int) then gdK none (if (0 : Int) ≤ (0 : Int) ∧ (0 : Int) < (↑v2.length : Int) then some () else none) fun x => gdK none v2[0]? fun l => gdK none l.head? fun x => gdK none
 (T.int? IntKind.i64 x) fun n => gdK none (if (0 : Int) ≤ (1 : Int) ∧ (1 : Int) < (↑v2.length : Int) then some () else none) fun x => gdK none v2[1]? fun l => gdK none l.head? fun x => gdK none (T.int? IntKind.i64 x) fun
 n_1 => gdK none (if v1 < (0 : Int) then none else some ()) fun x => some [T.int IntKind.i64 (IntKind.i64.wrap (↑(BitVec.ofInt 64 (IntKind.i64.wrap (↑(BitVec.ofInt 64 n ^^^ BitVec.ofInt 64 n_1).toNat : Int)) &&&
 BitVec.ofInt 64 (IntKind.i64.wrap (IntKind.i64.wrap ((1 : Int) * (2 : Int) ^ min v1.toNat 64) - (1 : Int)))).toNat : Int)), T.int IntKind.i64 (0 : Int), T.int IntKind.i64 (0 : Int)] else bif v0 == (20 : Int) then gdK none
 (if (0 : Int) ≤ (0 : Int) ∧ (0 : Int) < (↑v2.length : Int) then some () else none) fun x => gdK none v2[0]? fun l => gdK none l.head? fun x => gdK none (T.int? IntKind.i64 x) fun n => gdK none (if (0 : Int) ≤ (1 : Int) ∧
 (1 : Int) < (↑v2.length : Int) then some () else none) fun x => gdK none v2[1]? fun l => gdK none l.head? fun x => gdK none (T.int? IntKind.i64 x) fun n_1 => gdK none (if v1 < (0 : Int) then none else some ()) fun x =>
 some [T.int IntKind.i64 (IntKind.i64.wrap (↑(BitVec.ofInt 64 (IntKind.i64.wrap (n + n_1)) &&& BitVec.ofInt 64 (IntKind.i64.wrap (IntKind.i64.wrap ((1 : Int) * (2 : Int) ^ min v1.toNat 64) - (1 : Int)))).toNat : Int)),
 T.int IntKind.i64 (0 : Int), T.int IntKind.i64 (0 : Int)] else bif v0 == (21 : Int) then gdK none (if (0 : Int) ≤ (0 : Int) ∧ (0 : Int) < (↑v2.length : Int) then some () else none) fun x => gdK none v2[0]? fun l => gdK
 none l.head? fun x => gdK none (T.int? IntKind.i64 x) fun n => gdK none (if (0 : Int) ≤ (1 : Int) ∧ (1 : Int) < (↑v2.length : Int) then some () else none) fun x => gdK none v2[1]? fun l => gdK none l.head? fun x => gdK
 none (T.int? IntKind.i64 x) fun n_1 => gdK none (if v1 < (0 : Int) then none else some ()) fun x => some [T.int IntKind.i64 (IntKind.i64.wrap (↑(BitVec.ofInt 64 (IntKind.i64.wrap (n * n_1)) &&& BitVec.ofInt 64
 (IntKind.i64.wrap (IntKind.i64.wrap ((1 : Int) * (2 : Int) ^ min v1.toNat 64) - (1 : Int)))).toNat : Int)), T.int IntKind.i64 (0 : Int), T.int IntKind.i64 (0 : Int)] else bif v0 == (23 : Int) then gdK none (if (0 : Int) ≤
 (0 : Int) ∧ (0 : Int) < (↑v2.length : Int) then some () else none) fun x => gdK none v2[0]? fun l => gdK none l.head? fun x => gdK none (T.int? IntKind.i64 x) fun n => gdK none (if v3 < (0 : Int) then none else some ())
 fun x => gdK none (if v1 < (0 : Int) then none else some ()) fun x => some [T.int IntKind.i64 (IntKind.i64.wrap (↑(BitVec.ofInt 64 (IntKind.i64.wrap (n * (2 : Int) ^ min v3.toNat 64)) &&& BitVec.ofInt 64 (IntKind.i64.wrap
 (IntKind.i64.wrap ((1 : Int) * (2 : Int) ^ min v1.toNat 64) - (1 : Int)))).toNat : Int)), T.int IntKind.i64 (0 : Int), T.int IntKind.i64 (0 : Int)] else bif v0 == (22 : Int) then gdK none (if (0 : Int) ≤ (0 : Int) ∧ (0 :
 Int) < (↑v2.length : Int) then some () else none) fun x => gdK none v2[0]? fun l => gdK none l.head? fun x => gdK none (T.int? IntKind.i64 x) fun n => gdK none (if (0 : Int) ≤ (1 : Int) ∧ (1 : Int) < (↑v2.length : Int)
 then some () else none) fun x => gdK none v2[1]? fun l => gdK none l.head? fun x => gdK none (T.int? IntKind.i64 x) fun n_1 => bif decide (n < n_1) then gdK none (if v1 < (0 : Int) then none else some ()) fun x => some
 [T.int IntKind.i64 (IntKind.i64.wrap (↑(BitVec.ofInt 64 (1 : Int) &&& BitVec.ofInt 64 (IntKind.i64.wrap (IntKind.i64.wrap ((1 : Int) * (2 : Int) ^ min v1.toNat 64) - (1 : Int)))).toNat : Int)), T.int IntKind.i64 (0 :
 Int), T.int IntKind.i64 (0 : Int)] else gdK none (if v1 < (0 : Int) then none else some ()) fun x => some [T.int IntKind.i64 (IntKind.i64.wrap (↑(BitVec.ofInt 64 (0 : Int) &&& BitVec.ofInt 64 (IntKind.i64.wrap
 (IntKind.i64.wrap ((1 : Int) * (2 : Int) ^ min v1.toNat 64) - (1 : Int)))).toNat : Int)), T.int IntKind.i64 (0 : Int), T.int IntKind.i64 (0 : Int)] else gdK none (if v1 < (0 : Int) then none else some ()) fun x => some
 [T.int IntKind.i64 (IntKind.i64.wrap (↑(BitVec.ofInt 64 v3 &&& BitVec.ofInt 64 (IntKind.i64.wrap (IntKind.i64.wrap ((1 : Int) * (2 : Int) ^ min v1.toNat 64) - (1 : Int)))).toNat : Int)), T.int IntKind.i64 (0 : Int), T.int
 IntKind.i64 (0 : Int)]) := by kernel_rfl
theorem e29o15 (O : Orc) (en : Bool) (nl : List (List T)) (s n d : Int) (ek : Bool) (kl : List (List T)) (ev : Bool) (vl : List (List T)) (b : Int) : stepO PROG ann O (Key.call 29) [AV.agg [AV.t (T.lst 3 true []), AV.t (T.lst 5 en nl), AV.t (T.lst 1 true [])], AV.agg [AV.t (T.lst 5 true [])], I s, AV.agg [I 15, AV.t (T.lst 1 ek kl), I n, I d, AV.t (T.str (ByteArray.mk #[]))], AV.t (T.lst 4 ev vl), I b] [] =
  (O K29n41 [I b, AV.ref (Id.c 0) 0, AV.ref (Id.c 1) 0, AV.own (Id.c 2), AV.t (T.lst 4 ev vl), I (↑vl.length : Int), I (0 : Int)] [Blk.box [I (15 : Int), AV.t (T.lst 1 ek kl), I n, I d, AV.t (T.str (ByteArray.mk #[]))],
 Blk.box [I (0 : Int), I (0 : Int), AV.t (T.emp true), I (0 : Int)], Blk.sl false 1 true []]) := by kernel_rfl
theorem e29n41 (O : Orc) (v5 : Int) (ev174 : Bool) (v174 : List (List T)) (v175 : Int) (v176 : Int) (c0_0 : Int) (ec0_1 : Bool) (c0_1 : List (List T)) (c0_2 : Int) (c0_3 : Int) (c0_4 : ByteArray) (c1_0 : Int) (c1_1 : Int) (ec1_2 : Bool) (c1_3 : Int) (ec2 : Bool) (c2 : List (List T)) : stepO PROG ann O K29n41 [(I v5), (AV.ref (Id.c 0) 0), (AV.ref (Id.c 1) 0), (AV.own (Id.c 2)), (AV.t (T.lst 4 ev174 v174)), (I v175), (I v176)] [(Blk.box [(I c0_0), (AV.t (T.lst 1 ec0_1 c0_1)), (I c0_2), (I c0_3), (AV.t (T.str c0_4))]), (Blk.box [(I c1_0), (I c1_1), (AV.t (T.emp ec1_2)), (I c1_3)]), (Blk.sl false 1 ec2 c2)] =
  (bif decide (v176 < v175) then gdK none (if (0 : Int) ≤ v176 ∧ v176 < (↑v174.length : Int) then some () else none) fun x => gdK none v174[v176.toNat]? fun l => gdK none l.head? fun x => gdK none l.tail.head? fun x_1 => gdK
 none l.tail.tail.head? fun x_2 => gdK none l.tail.tail.tail.head? fun x_3 => gdK none (T.int? IntKind.i64 x) fun n => gdK none (T.int? IntKind.i64 x_1) fun n_1 => gdK none (T.lst? 2 x_2) fun p => gdK none (T.int?
 IntKind.i64 x_3) fun n_2 => gdK none (small 8 (c2.length + [[T.int IntKind.i64 n]].length)) fun x => O K29n41 [I v5, AV.ref (Id.c 0) 0, AV.ref (Id.c 1) 0, AV.own (Id.c 2), AV.t (T.lst 4 ev174 v174), I v175, I
 (IntKind.i64.wrap (v176 + (1 : Int)))] [Blk.box [I c0_0, AV.t (T.lst 1 ec0_1 c0_1), I c0_2, I c0_3, AV.t (T.str c0_4)], Blk.box [I c1_0, I c1_1, AV.t (T.emp ec1_2), I c1_3], Blk.sl false 1 (ec2 && false) (c2 ++ [[T.int
 IntKind.i64 n]])] else gdK none (O (Key.call 8) [I c0_0, I v5, AV.t (T.lst 1 ec2 c2), I c0_2] []) fun l => gdK none l.head? fun x => gdK none (T.int? IntKind.i64 x) fun n => gdK none l.tail.head? fun x => gdK none (T.int?
 IntKind.i64 x) fun n_1 => gdK none l.tail.tail.head? fun x => gdK none (T.int? IntKind.i64 x) fun n_2 => gdK none (O (Key.call 44) [I n] []) fun l => gdK none l.head? fun x => gdK none (T.int? IntKind.i64 x) fun n => gdK
 none l.tail.head? fun x => gdK none (T.int? IntKind.i64 x) fun n_3 => gdK none l.tail.tail.head? fun x => gdK none (T.lst? 2 x) fun p => gdK none l.tail.tail.tail.head? fun x => gdK none (T.int? IntKind.i64 x) fun n_4 =>
 some [T.int IntKind.i64 n, T.int IntKind.i64 n_3, T.lst 2 p.fst p.snd, T.int IntKind.i64 n_4, T.bool true]) := by kernel_rfl
theorem e29o16 (O : Orc) (en : Bool) (nl : List (List T)) (s n d : Int) (ek : Bool) (kl : List (List T)) (ev : Bool) (vl : List (List T)) (b : Int) : stepO PROG ann O (Key.call 29) [AV.agg [AV.t (T.lst 3 true []), AV.t (T.lst 5 en nl), AV.t (T.lst 1 true [])], AV.agg [AV.t (T.lst 5 true [])], I s, AV.agg [I 16, AV.t (T.lst 1 ek kl), I n, I d, AV.t (T.str (ByteArray.mk #[]))], AV.t (T.lst 4 ev vl), I b] [] =
  (O K29n41 [I b, AV.ref (Id.c 0) 0, AV.ref (Id.c 1) 0, AV.own (Id.c 2), AV.t (T.lst 4 ev vl), I (↑vl.length : Int), I (0 : Int)] [Blk.box [I (16 : Int), AV.t (T.lst 1 ek kl), I n, I d, AV.t (T.str (ByteArray.mk #[]))],
 Blk.box [I (0 : Int), I (0 : Int), AV.t (T.emp true), I (0 : Int)], Blk.sl false 1 true []]) := by kernel_rfl
theorem e29o17 (O : Orc) (en : Bool) (nl : List (List T)) (s n d : Int) (ek : Bool) (kl : List (List T)) (ev : Bool) (vl : List (List T)) (b : Int) : stepO PROG ann O (Key.call 29) [AV.agg [AV.t (T.lst 3 true []), AV.t (T.lst 5 en nl), AV.t (T.lst 1 true [])], AV.agg [AV.t (T.lst 5 true [])], I s, AV.agg [I 17, AV.t (T.lst 1 ek kl), I n, I d, AV.t (T.str (ByteArray.mk #[]))], AV.t (T.lst 4 ev vl), I b] [] =
  (O K29n41 [I b, AV.ref (Id.c 0) 0, AV.ref (Id.c 1) 0, AV.own (Id.c 2), AV.t (T.lst 4 ev vl), I (↑vl.length : Int), I (0 : Int)] [Blk.box [I (17 : Int), AV.t (T.lst 1 ek kl), I n, I d, AV.t (T.str (ByteArray.mk #[]))],
 Blk.box [I (0 : Int), I (0 : Int), AV.t (T.emp true), I (0 : Int)], Blk.sl false 1 true []]) := by kernel_rfl
theorem e29o18 (O : Orc) (en : Bool) (nl : List (List T)) (s n d : Int) (ek : Bool) (kl : List (List T)) (ev : Bool) (vl : List (List T)) (b : Int) : stepO PROG ann O (Key.call 29) [AV.agg [AV.t (T.lst 3 true []), AV.t (T.lst 5 en nl), AV.t (T.lst 1 true [])], AV.agg [AV.t (T.lst 5 true [])], I s, AV.agg [I 18, AV.t (T.lst 1 ek kl), I n, I d, AV.t (T.str (ByteArray.mk #[]))], AV.t (T.lst 4 ev vl), I b] [] =
  (O K29n41 [I b, AV.ref (Id.c 0) 0, AV.ref (Id.c 1) 0, AV.own (Id.c 2), AV.t (T.lst 4 ev vl), I (↑vl.length : Int), I (0 : Int)] [Blk.box [I (18 : Int), AV.t (T.lst 1 ek kl), I n, I d, AV.t (T.str (ByteArray.mk #[]))],
 Blk.box [I (0 : Int), I (0 : Int), AV.t (T.emp true), I (0 : Int)], Blk.sl false 1 true []]) := by kernel_rfl
theorem e29o19 (O : Orc) (en : Bool) (nl : List (List T)) (s n d : Int) (ek : Bool) (kl : List (List T)) (ev : Bool) (vl : List (List T)) (b : Int) : stepO PROG ann O (Key.call 29) [AV.agg [AV.t (T.lst 3 true []), AV.t (T.lst 5 en nl), AV.t (T.lst 1 true [])], AV.agg [AV.t (T.lst 5 true [])], I s, AV.agg [I 19, AV.t (T.lst 1 ek kl), I n, I d, AV.t (T.str (ByteArray.mk #[]))], AV.t (T.lst 4 ev vl), I b] [] =
  (O K29n41 [I b, AV.ref (Id.c 0) 0, AV.ref (Id.c 1) 0, AV.own (Id.c 2), AV.t (T.lst 4 ev vl), I (↑vl.length : Int), I (0 : Int)] [Blk.box [I (19 : Int), AV.t (T.lst 1 ek kl), I n, I d, AV.t (T.str (ByteArray.mk #[]))],
 Blk.box [I (0 : Int), I (0 : Int), AV.t (T.emp true), I (0 : Int)], Blk.sl false 1 true []]) := by kernel_rfl
theorem e29o20 (O : Orc) (en : Bool) (nl : List (List T)) (s n d : Int) (ek : Bool) (kl : List (List T)) (ev : Bool) (vl : List (List T)) (b : Int) : stepO PROG ann O (Key.call 29) [AV.agg [AV.t (T.lst 3 true []), AV.t (T.lst 5 en nl), AV.t (T.lst 1 true [])], AV.agg [AV.t (T.lst 5 true [])], I s, AV.agg [I 20, AV.t (T.lst 1 ek kl), I n, I d, AV.t (T.str (ByteArray.mk #[]))], AV.t (T.lst 4 ev vl), I b] [] =
  (O K29n41 [I b, AV.ref (Id.c 0) 0, AV.ref (Id.c 1) 0, AV.own (Id.c 2), AV.t (T.lst 4 ev vl), I (↑vl.length : Int), I (0 : Int)] [Blk.box [I (20 : Int), AV.t (T.lst 1 ek kl), I n, I d, AV.t (T.str (ByteArray.mk #[]))],
 Blk.box [I (0 : Int), I (0 : Int), AV.t (T.emp true), I (0 : Int)], Blk.sl false 1 true []]) := by kernel_rfl
theorem e29o21 (O : Orc) (en : Bool) (nl : List (List T)) (s n d : Int) (ek : Bool) (kl : List (List T)) (ev : Bool) (vl : List (List T)) (b : Int) : stepO PROG ann O (Key.call 29) [AV.agg [AV.t (T.lst 3 true []), AV.t (T.lst 5 en nl), AV.t (T.lst 1 true [])], AV.agg [AV.t (T.lst 5 true [])], I s, AV.agg [I 21, AV.t (T.lst 1 ek kl), I n, I d, AV.t (T.str (ByteArray.mk #[]))], AV.t (T.lst 4 ev vl), I b] [] =
  (O K29n41 [I b, AV.ref (Id.c 0) 0, AV.ref (Id.c 1) 0, AV.own (Id.c 2), AV.t (T.lst 4 ev vl), I (↑vl.length : Int), I (0 : Int)] [Blk.box [I (21 : Int), AV.t (T.lst 1 ek kl), I n, I d, AV.t (T.str (ByteArray.mk #[]))],
 Blk.box [I (0 : Int), I (0 : Int), AV.t (T.emp true), I (0 : Int)], Blk.sl false 1 true []]) := by kernel_rfl
theorem e29o22 (O : Orc) (en : Bool) (nl : List (List T)) (s n d : Int) (ek : Bool) (kl : List (List T)) (ev : Bool) (vl : List (List T)) (b : Int) : stepO PROG ann O (Key.call 29) [AV.agg [AV.t (T.lst 3 true []), AV.t (T.lst 5 en nl), AV.t (T.lst 1 true [])], AV.agg [AV.t (T.lst 5 true [])], I s, AV.agg [I 22, AV.t (T.lst 1 ek kl), I n, I d, AV.t (T.str (ByteArray.mk #[]))], AV.t (T.lst 4 ev vl), I b] [] =
  (O K29n41 [I b, AV.ref (Id.c 0) 0, AV.ref (Id.c 1) 0, AV.own (Id.c 2), AV.t (T.lst 4 ev vl), I (↑vl.length : Int), I (0 : Int)] [Blk.box [I (22 : Int), AV.t (T.lst 1 ek kl), I n, I d, AV.t (T.str (ByteArray.mk #[]))],
 Blk.box [I (0 : Int), I (0 : Int), AV.t (T.emp true), I (0 : Int)], Blk.sl false 1 true []]) := by kernel_rfl
theorem e29o23 (O : Orc) (en : Bool) (nl : List (List T)) (s n d : Int) (ek : Bool) (kl : List (List T)) (ev : Bool) (vl : List (List T)) (b : Int) : stepO PROG ann O (Key.call 29) [AV.agg [AV.t (T.lst 3 true []), AV.t (T.lst 5 en nl), AV.t (T.lst 1 true [])], AV.agg [AV.t (T.lst 5 true [])], I s, AV.agg [I 23, AV.t (T.lst 1 ek kl), I n, I d, AV.t (T.str (ByteArray.mk #[]))], AV.t (T.lst 4 ev vl), I b] [] =
  (O K29n41 [I b, AV.ref (Id.c 0) 0, AV.ref (Id.c 1) 0, AV.own (Id.c 2), AV.t (T.lst 4 ev vl), I (↑vl.length : Int), I (0 : Int)] [Blk.box [I (23 : Int), AV.t (T.lst 1 ek kl), I n, I d, AV.t (T.str (ByteArray.mk #[]))],
 Blk.box [I (0 : Int), I (0 : Int), AV.t (T.emp true), I (0 : Int)], Blk.sl false 1 true []]) := by kernel_rfl
theorem e65o15 (O : Orc) (n d : Int) (ek : Bool) (kl : List (List T)) (es : Bool) (sl : List (List T)) (s : Int) : stepO PROG ann O (Key.call 65) [AV.agg [I 15, AV.t (T.lst 1 ek kl), I n, I d, AV.t (T.str (ByteArray.mk #[]))], AV.t (T.lst 1 es sl), AV.agg [AV.t (T.str (ByteArray.mk #[])), AV.t (T.lst 1 true []), I s]] [] =
  (gdK (some ((↑sl.length : Int) == (2 : Int))) (if (0 : Int) ≤ (0 : Int) ∧ (0 : Int) < (↑sl.length : Int) then some () else none) fun x => gdK (some ((↑sl.length : Int) == (2 : Int))) sl[0]? fun l => gdK (some ((↑sl.length
 : Int) == (2 : Int))) l.head? fun x => gdK (some ((↑sl.length : Int) == (2 : Int))) (T.int? IntKind.i64 x) fun n => gdK (some ((↑sl.length : Int) == (2 : Int))) (if (0 : Int) ≤ (1 : Int) ∧ (1 : Int) < (↑sl.length : Int)
 then some () else none) fun x => gdK (some ((↑sl.length : Int) == (2 : Int))) sl[1]? fun l => gdK (some ((↑sl.length : Int) == (2 : Int))) l.head? fun x => gdK (some ((↑sl.length : Int) == (2 : Int))) (T.int? IntKind.i64
 x) fun n => some [T.int IntKind.i64 (IntKind.i64.wrap ((10 : Int) + d))]) := by kernel_rfl
theorem e65o16 (O : Orc) (n d : Int) (ek : Bool) (kl : List (List T)) (es : Bool) (sl : List (List T)) (s : Int) : stepO PROG ann O (Key.call 65) [AV.agg [I 16, AV.t (T.lst 1 ek kl), I n, I d, AV.t (T.str (ByteArray.mk #[]))], AV.t (T.lst 1 es sl), AV.agg [AV.t (T.str (ByteArray.mk #[])), AV.t (T.lst 1 true []), I s]] [] =
  (gdK (some ((↑sl.length : Int) == (2 : Int))) (if (0 : Int) ≤ (0 : Int) ∧ (0 : Int) < (↑sl.length : Int) then some () else none) fun x => gdK (some ((↑sl.length : Int) == (2 : Int))) sl[0]? fun l => gdK (some ((↑sl.length
 : Int) == (2 : Int))) l.head? fun x => gdK (some ((↑sl.length : Int) == (2 : Int))) (T.int? IntKind.i64 x) fun n => gdK (some ((↑sl.length : Int) == (2 : Int))) (if (0 : Int) ≤ (1 : Int) ∧ (1 : Int) < (↑sl.length : Int)
 then some () else none) fun x => gdK (some ((↑sl.length : Int) == (2 : Int))) sl[1]? fun l => gdK (some ((↑sl.length : Int) == (2 : Int))) l.head? fun x => gdK (some ((↑sl.length : Int) == (2 : Int))) (T.int? IntKind.i64
 x) fun n => gdK none (if (0 : Int) ≤ (0 : Int) ∧ (0 : Int) < (↑sl.length : Int) then some () else none) fun x => gdK none sl[0]? fun l => gdK none l.head? fun x => gdK none (T.int? IntKind.i64 x) fun n => gdK none (O
 (Key.call 28) [I n] []) fun l => gdK none l.head? fun x => gdK none x.bool? fun b => gdK none (if (0 : Int) ≤ (0 : Int) ∧ (0 : Int) < (↑sl.length : Int) then some () else none) fun x => gdK none sl[0]? fun l => gdK none
 l.head? fun x => gdK none (T.int? IntKind.i64 x) fun n => bif !b then some [T.int IntKind.i64 (0 : Int)] else some [T.int IntKind.i64 n]) := by kernel_rfl
theorem e65o17 (O : Orc) (n d : Int) (ek : Bool) (kl : List (List T)) (es : Bool) (sl : List (List T)) (s : Int) : stepO PROG ann O (Key.call 65) [AV.agg [I 17, AV.t (T.lst 1 ek kl), I n, I d, AV.t (T.str (ByteArray.mk #[]))], AV.t (T.lst 1 es sl), AV.agg [AV.t (T.str (ByteArray.mk #[])), AV.t (T.lst 1 true []), I s]] [] =
  (gdK (some ((↑sl.length : Int) == (2 : Int))) (if (0 : Int) ≤ (0 : Int) ∧ (0 : Int) < (↑sl.length : Int) then some () else none) fun x => gdK (some ((↑sl.length : Int) == (2 : Int))) sl[0]? fun l => gdK (some ((↑sl.length
 : Int) == (2 : Int))) l.head? fun x => gdK (some ((↑sl.length : Int) == (2 : Int))) (T.int? IntKind.i64 x) fun n => gdK (some ((↑sl.length : Int) == (2 : Int))) (if (0 : Int) ≤ (1 : Int) ∧ (1 : Int) < (↑sl.length : Int)
 then some () else none) fun x => gdK (some ((↑sl.length : Int) == (2 : Int))) sl[1]? fun l => gdK (some ((↑sl.length : Int) == (2 : Int))) l.head? fun x => gdK (some ((↑sl.length : Int) == (2 : Int))) (T.int? IntKind.i64
 x) fun n_1 => gdK (some (bif (↑sl.length : Int) == (2 : Int) then n == n_1 else false)) (if (0 : Int) ≤ (0 : Int) ∧ (0 : Int) < (↑sl.length : Int) then some () else none) fun x => gdK (some (bif (↑sl.length : Int) == (2 :
 Int) then n == n_1 else false)) sl[0]? fun l => gdK (some (bif (↑sl.length : Int) == (2 : Int) then n == n_1 else false)) l.head? fun x => gdK (some (bif (↑sl.length : Int) == (2 : Int) then n == n_1 else false)) (T.int?
 IntKind.i64 x) fun n_2 => gdK none (askO (some (bif (↑sl.length : Int) == (2 : Int) then n == n_1 else false)) (O (Key.call 28) [I n_2] [])) fun l => gdK (some (bif (↑sl.length : Int) == (2 : Int) then n == n_1 else
 false)) l.head? fun x => gdK (some (bif (↑sl.length : Int) == (2 : Int) then n == n_1 else false)) x.bool? fun b => gdK none (if (0 : Int) ≤ (0 : Int) ∧ (0 : Int) < (↑sl.length : Int) then some () else none) fun x => gdK
 none sl[0]? fun l => gdK none l.head? fun x => gdK none (T.int? IntKind.i64 x) fun n_3 => bif !bif bif (↑sl.length : Int) == (2 : Int) then n == n_1 else false then b else false then some [T.int IntKind.i64 (0 : Int)]
 else some [T.int IntKind.i64 n_3]) := by kernel_rfl
theorem e65o18 (O : Orc) (n d : Int) (ek : Bool) (kl : List (List T)) (es : Bool) (sl : List (List T)) (s : Int) : stepO PROG ann O (Key.call 65) [AV.agg [I 18, AV.t (T.lst 1 ek kl), I n, I d, AV.t (T.str (ByteArray.mk #[]))], AV.t (T.lst 1 es sl), AV.agg [AV.t (T.str (ByteArray.mk #[])), AV.t (T.lst 1 true []), I s]] [] =
  (gdK (some ((↑sl.length : Int) == (2 : Int))) (if (0 : Int) ≤ (0 : Int) ∧ (0 : Int) < (↑sl.length : Int) then some () else none) fun x => gdK (some ((↑sl.length : Int) == (2 : Int))) sl[0]? fun l => gdK (some ((↑sl.length
 : Int) == (2 : Int))) l.head? fun x => gdK (some ((↑sl.length : Int) == (2 : Int))) (T.int? IntKind.i64 x) fun n => gdK (some ((↑sl.length : Int) == (2 : Int))) (if (0 : Int) ≤ (1 : Int) ∧ (1 : Int) < (↑sl.length : Int)
 then some () else none) fun x => gdK (some ((↑sl.length : Int) == (2 : Int))) sl[1]? fun l => gdK (some ((↑sl.length : Int) == (2 : Int))) l.head? fun x => gdK (some ((↑sl.length : Int) == (2 : Int))) (T.int? IntKind.i64
 x) fun n_1 => gdK (some (bif (↑sl.length : Int) == (2 : Int) then n == n_1 else false)) (if (0 : Int) ≤ (0 : Int) ∧ (0 : Int) < (↑sl.length : Int) then some () else none) fun x => gdK (some (bif (↑sl.length : Int) == (2 :
 Int) then n == n_1 else false)) sl[0]? fun l => gdK (some (bif (↑sl.length : Int) == (2 : Int) then n == n_1 else false)) l.head? fun x => gdK (some (bif (↑sl.length : Int) == (2 : Int) then n == n_1 else false)) (T.int?
 IntKind.i64 x) fun n_2 => gdK none (askO (some (bif (↑sl.length : Int) == (2 : Int) then n == n_1 else false)) (O (Key.call 28) [I n_2] [])) fun l => gdK (some (bif (↑sl.length : Int) == (2 : Int) then n == n_1 else
 false)) l.head? fun x => gdK (some (bif (↑sl.length : Int) == (2 : Int) then n == n_1 else false)) x.bool? fun b => gdK none (if (0 : Int) ≤ (0 : Int) ∧ (0 : Int) < (↑sl.length : Int) then some () else none) fun x => gdK
 none sl[0]? fun l => gdK none l.head? fun x => gdK none (T.int? IntKind.i64 x) fun n_3 => bif !bif bif (↑sl.length : Int) == (2 : Int) then n == n_1 else false then b else false then some [T.int IntKind.i64 (0 : Int)]
 else some [T.int IntKind.i64 n_3]) := by kernel_rfl
theorem e65o19 (O : Orc) (n d : Int) (ek : Bool) (kl : List (List T)) (es : Bool) (sl : List (List T)) (s : Int) : stepO PROG ann O (Key.call 65) [AV.agg [I 19, AV.t (T.lst 1 ek kl), I n, I d, AV.t (T.str (ByteArray.mk #[]))], AV.t (T.lst 1 es sl), AV.agg [AV.t (T.str (ByteArray.mk #[])), AV.t (T.lst 1 true []), I s]] [] =
  (gdK (some ((↑sl.length : Int) == (2 : Int))) (if (0 : Int) ≤ (0 : Int) ∧ (0 : Int) < (↑sl.length : Int) then some () else none) fun x => gdK (some ((↑sl.length : Int) == (2 : Int))) sl[0]? fun l => gdK (some ((↑sl.length
 : Int) == (2 : Int))) l.head? fun x => gdK (some ((↑sl.length : Int) == (2 : Int))) (T.int? IntKind.i64 x) fun n => gdK (some ((↑sl.length : Int) == (2 : Int))) (if (0 : Int) ≤ (1 : Int) ∧ (1 : Int) < (↑sl.length : Int)
 then some () else none) fun x => gdK (some ((↑sl.length : Int) == (2 : Int))) sl[1]? fun l => gdK (some ((↑sl.length : Int) == (2 : Int))) l.head? fun x => gdK (some ((↑sl.length : Int) == (2 : Int))) (T.int? IntKind.i64
 x) fun n_1 => gdK (some (bif (↑sl.length : Int) == (2 : Int) then n == n_1 else false)) (if (0 : Int) ≤ (0 : Int) ∧ (0 : Int) < (↑sl.length : Int) then some () else none) fun x => gdK (some (bif (↑sl.length : Int) == (2 :
 Int) then n == n_1 else false)) sl[0]? fun l => gdK (some (bif (↑sl.length : Int) == (2 : Int) then n == n_1 else false)) l.head? fun x => gdK (some (bif (↑sl.length : Int) == (2 : Int) then n == n_1 else false)) (T.int?
 IntKind.i64 x) fun n_2 => gdK none (askO (some (bif (↑sl.length : Int) == (2 : Int) then n == n_1 else false)) (O (Key.call 28) [I n_2] [])) fun l => gdK (some (bif (↑sl.length : Int) == (2 : Int) then n == n_1 else
 false)) l.head? fun x => gdK (some (bif (↑sl.length : Int) == (2 : Int) then n == n_1 else false)) x.bool? fun b => gdK none (if (0 : Int) ≤ (0 : Int) ∧ (0 : Int) < (↑sl.length : Int) then some () else none) fun x => gdK
 none sl[0]? fun l => gdK none l.head? fun x => gdK none (T.int? IntKind.i64 x) fun n_3 => bif !bif bif (↑sl.length : Int) == (2 : Int) then n == n_1 else false then b else false then some [T.int IntKind.i64 (0 : Int)]
 else some [T.int IntKind.i64 n_3]) := by kernel_rfl
theorem e65o20 (O : Orc) (n d : Int) (ek : Bool) (kl : List (List T)) (es : Bool) (sl : List (List T)) (s : Int) : stepO PROG ann O (Key.call 65) [AV.agg [I 20, AV.t (T.lst 1 ek kl), I n, I d, AV.t (T.str (ByteArray.mk #[]))], AV.t (T.lst 1 es sl), AV.agg [AV.t (T.str (ByteArray.mk #[])), AV.t (T.lst 1 true []), I s]] [] =
  (gdK (some ((↑sl.length : Int) == (2 : Int))) (if (0 : Int) ≤ (0 : Int) ∧ (0 : Int) < (↑sl.length : Int) then some () else none) fun x => gdK (some ((↑sl.length : Int) == (2 : Int))) sl[0]? fun l => gdK (some ((↑sl.length
 : Int) == (2 : Int))) l.head? fun x => gdK (some ((↑sl.length : Int) == (2 : Int))) (T.int? IntKind.i64 x) fun n => gdK (some ((↑sl.length : Int) == (2 : Int))) (if (0 : Int) ≤ (1 : Int) ∧ (1 : Int) < (↑sl.length : Int)
 then some () else none) fun x => gdK (some ((↑sl.length : Int) == (2 : Int))) sl[1]? fun l => gdK (some ((↑sl.length : Int) == (2 : Int))) l.head? fun x => gdK (some ((↑sl.length : Int) == (2 : Int))) (T.int? IntKind.i64
 x) fun n_1 => gdK (some (bif (↑sl.length : Int) == (2 : Int) then n == n_1 else false)) (if (0 : Int) ≤ (0 : Int) ∧ (0 : Int) < (↑sl.length : Int) then some () else none) fun x => gdK (some (bif (↑sl.length : Int) == (2 :
 Int) then n == n_1 else false)) sl[0]? fun l => gdK (some (bif (↑sl.length : Int) == (2 : Int) then n == n_1 else false)) l.head? fun x => gdK (some (bif (↑sl.length : Int) == (2 : Int) then n == n_1 else false)) (T.int?
 IntKind.i64 x) fun n_2 => gdK none (askO (some (bif (↑sl.length : Int) == (2 : Int) then n == n_1 else false)) (O (Key.call 28) [I n_2] [])) fun l => gdK (some (bif (↑sl.length : Int) == (2 : Int) then n == n_1 else
 false)) l.head? fun x => gdK (some (bif (↑sl.length : Int) == (2 : Int) then n == n_1 else false)) x.bool? fun b => gdK none (if (0 : Int) ≤ (0 : Int) ∧ (0 : Int) < (↑sl.length : Int) then some () else none) fun x => gdK
 none sl[0]? fun l => gdK none l.head? fun x => gdK none (T.int? IntKind.i64 x) fun n_3 => bif !bif bif (↑sl.length : Int) == (2 : Int) then n == n_1 else false then b else false then some [T.int IntKind.i64 (0 : Int)]
 else some [T.int IntKind.i64 n_3]) := by kernel_rfl
theorem e65o21 (O : Orc) (n d : Int) (ek : Bool) (kl : List (List T)) (es : Bool) (sl : List (List T)) (s : Int) : stepO PROG ann O (Key.call 65) [AV.agg [I 21, AV.t (T.lst 1 ek kl), I n, I d, AV.t (T.str (ByteArray.mk #[]))], AV.t (T.lst 1 es sl), AV.agg [AV.t (T.str (ByteArray.mk #[])), AV.t (T.lst 1 true []), I s]] [] =
  (gdK (some ((↑sl.length : Int) == (2 : Int))) (if (0 : Int) ≤ (0 : Int) ∧ (0 : Int) < (↑sl.length : Int) then some () else none) fun x => gdK (some ((↑sl.length : Int) == (2 : Int))) sl[0]? fun l => gdK (some ((↑sl.length
 : Int) == (2 : Int))) l.head? fun x => gdK (some ((↑sl.length : Int) == (2 : Int))) (T.int? IntKind.i64 x) fun n => gdK (some ((↑sl.length : Int) == (2 : Int))) (if (0 : Int) ≤ (1 : Int) ∧ (1 : Int) < (↑sl.length : Int)
 then some () else none) fun x => gdK (some ((↑sl.length : Int) == (2 : Int))) sl[1]? fun l => gdK (some ((↑sl.length : Int) == (2 : Int))) l.head? fun x => gdK (some ((↑sl.length : Int) == (2 : Int))) (T.int? IntKind.i64
 x) fun n_1 => gdK (some (bif (↑sl.length : Int) == (2 : Int) then n == n_1 else false)) (if (0 : Int) ≤ (0 : Int) ∧ (0 : Int) < (↑sl.length : Int) then some () else none) fun x => gdK (some (bif (↑sl.length : Int) == (2 :
 Int) then n == n_1 else false)) sl[0]? fun l => gdK (some (bif (↑sl.length : Int) == (2 : Int) then n == n_1 else false)) l.head? fun x => gdK (some (bif (↑sl.length : Int) == (2 : Int) then n == n_1 else false)) (T.int?
 IntKind.i64 x) fun n_2 => gdK none (askO (some (bif (↑sl.length : Int) == (2 : Int) then n == n_1 else false)) (O (Key.call 28) [I n_2] [])) fun l => gdK (some (bif (↑sl.length : Int) == (2 : Int) then n == n_1 else
 false)) l.head? fun x => gdK (some (bif (↑sl.length : Int) == (2 : Int) then n == n_1 else false)) x.bool? fun b => gdK none (if (0 : Int) ≤ (0 : Int) ∧ (0 : Int) < (↑sl.length : Int) then some () else none) fun x => gdK
 none sl[0]? fun l => gdK none l.head? fun x => gdK none (T.int? IntKind.i64 x) fun n_3 => bif !bif bif (↑sl.length : Int) == (2 : Int) then n == n_1 else false then b else false then some [T.int IntKind.i64 (0 : Int)]
 else some [T.int IntKind.i64 n_3]) := by kernel_rfl
theorem e65o22 (O : Orc) (n d : Int) (ek : Bool) (kl : List (List T)) (es : Bool) (sl : List (List T)) (s : Int) : stepO PROG ann O (Key.call 65) [AV.agg [I 22, AV.t (T.lst 1 ek kl), I n, I d, AV.t (T.str (ByteArray.mk #[]))], AV.t (T.lst 1 es sl), AV.agg [AV.t (T.str (ByteArray.mk #[])), AV.t (T.lst 1 true []), I s]] [] =
  (gdK (some ((↑sl.length : Int) == (2 : Int))) (if (0 : Int) ≤ (0 : Int) ∧ (0 : Int) < (↑sl.length : Int) then some () else none) fun x => gdK (some ((↑sl.length : Int) == (2 : Int))) sl[0]? fun l => gdK (some ((↑sl.length
 : Int) == (2 : Int))) l.head? fun x => gdK (some ((↑sl.length : Int) == (2 : Int))) (T.int? IntKind.i64 x) fun n => gdK (some ((↑sl.length : Int) == (2 : Int))) (if (0 : Int) ≤ (1 : Int) ∧ (1 : Int) < (↑sl.length : Int)
 then some () else none) fun x => gdK (some ((↑sl.length : Int) == (2 : Int))) sl[1]? fun l => gdK (some ((↑sl.length : Int) == (2 : Int))) l.head? fun x => gdK (some ((↑sl.length : Int) == (2 : Int))) (T.int? IntKind.i64
 x) fun n_1 => gdK (some (bif (↑sl.length : Int) == (2 : Int) then n == n_1 else false)) (if (0 : Int) ≤ (0 : Int) ∧ (0 : Int) < (↑sl.length : Int) then some () else none) fun x => gdK (some (bif (↑sl.length : Int) == (2 :
 Int) then n == n_1 else false)) sl[0]? fun l => gdK (some (bif (↑sl.length : Int) == (2 : Int) then n == n_1 else false)) l.head? fun x => gdK (some (bif (↑sl.length : Int) == (2 : Int) then n == n_1 else false)) (T.int?
 IntKind.i64 x) fun n_2 => gdK none (askO (some (bif (↑sl.length : Int) == (2 : Int) then n == n_1 else false)) (O (Key.call 28) [I n_2] [])) fun l => gdK (some (bif (↑sl.length : Int) == (2 : Int) then n == n_1 else
 false)) l.head? fun x => gdK (some (bif (↑sl.length : Int) == (2 : Int) then n == n_1 else false)) x.bool? fun b => bif !bif bif (↑sl.length : Int) == (2 : Int) then n == n_1 else false then b else false then some [T.int
 IntKind.i64 (0 : Int)] else some [T.int IntKind.i64 (1 : Int)]) := by kernel_rfl
theorem e65o23 (O : Orc) (n d : Int) (ek : Bool) (kl : List (List T)) (es : Bool) (sl : List (List T)) (s : Int) : stepO PROG ann O (Key.call 65) [AV.agg [I 23, AV.t (T.lst 1 ek kl), I n, I d, AV.t (T.str (ByteArray.mk #[]))], AV.t (T.lst 1 es sl), AV.agg [AV.t (T.str (ByteArray.mk #[])), AV.t (T.lst 1 true []), I s]] [] =
  (gdK (some ((↑sl.length : Int) == (2 : Int))) (if (0 : Int) ≤ (0 : Int) ∧ (0 : Int) < (↑sl.length : Int) then some () else none) fun x => gdK (some ((↑sl.length : Int) == (2 : Int))) sl[0]? fun l => gdK (some ((↑sl.length
 : Int) == (2 : Int))) l.head? fun x => gdK (some ((↑sl.length : Int) == (2 : Int))) (T.int? IntKind.i64 x) fun n => gdK (some ((↑sl.length : Int) == (2 : Int))) (if (0 : Int) ≤ (1 : Int) ∧ (1 : Int) < (↑sl.length : Int)
 then some () else none) fun x => gdK (some ((↑sl.length : Int) == (2 : Int))) sl[1]? fun l => gdK (some ((↑sl.length : Int) == (2 : Int))) l.head? fun x => gdK (some ((↑sl.length : Int) == (2 : Int))) (T.int? IntKind.i64
 x) fun n => gdK none (if (0 : Int) ≤ (0 : Int) ∧ (0 : Int) < (↑sl.length : Int) then some () else none) fun x => gdK none sl[0]? fun l => gdK none l.head? fun x => gdK none (T.int? IntKind.i64 x) fun n => gdK none (O
 (Key.call 28) [I n] []) fun l => gdK none l.head? fun x => gdK none x.bool? fun b => gdK none (if (0 : Int) ≤ (0 : Int) ∧ (0 : Int) < (↑sl.length : Int) then some () else none) fun x => gdK none sl[0]? fun l => gdK none
 l.head? fun x => gdK none (T.int? IntKind.i64 x) fun n => bif !b then some [T.int IntKind.i64 (0 : Int)] else some [T.int IntKind.i64 n]) := by kernel_rfl
theorem e62o15 (O : Orc)  : stepO PROG ann O (Key.call 62) [I 15] [] =
  (some [T.int IntKind.i64 (0 : Int)]) := by kernel_rfl
theorem e63o15 (O : Orc) (n d : Int) (ek : Bool) (kl : List (List T)) : stepO PROG ann O (Key.call 63) [AV.agg [I 15, AV.t (T.lst 1 ek kl), I n, I d, AV.t (T.str (ByteArray.mk #[]))]] [] =
  (some [T.bool (bif bif bif n == (0 : Int) then true else true then true else false then bif d == (0 : Int) then true else true else false)]) := by kernel_rfl
theorem e64o15 (O : Orc) (n d : Int) (ek : Bool) (kl : List (List T)) : stepO PROG ann O (Key.call 64) [AV.agg [I 15, AV.t (T.lst 1 ek kl), I n, I d, AV.t (T.str (ByteArray.mk #[]))]] [] =
  (gdK (some (bif bif decide (d ≥ (1 : Int)) then decide (d ≤ (8 : Int)) else false then decide (n ≥ (0 : Int)) else false)) (if d < (0 : Int) then none else some ()) fun x => some [T.bool (bif bif bif decide (d ≥ (1 : Int))
 then decide (d ≤ (8 : Int)) else false then decide (n ≥ (0 : Int)) else false then decide (n < IntKind.i64.wrap ((1 : Int) * (2 : Int) ^ min d.toNat 64)) else false)]) := by kernel_rfl
theorem e62o16 (O : Orc)  : stepO PROG ann O (Key.call 62) [I 16] [] =
  (some [T.int IntKind.i64 (1 : Int)]) := by kernel_rfl
theorem e63o16 (O : Orc) (n d : Int) (ek : Bool) (kl : List (List T)) : stepO PROG ann O (Key.call 63) [AV.agg [I 16, AV.t (T.lst 1 ek kl), I n, I d, AV.t (T.str (ByteArray.mk #[]))]] [] =
  (some [T.bool (bif bif bif n == (0 : Int) then true else false then true else false then bif d == (0 : Int) then true else false else false)]) := by kernel_rfl
theorem e64o16 (O : Orc) (n d : Int) (ek : Bool) (kl : List (List T)) : stepO PROG ann O (Key.call 64) [AV.agg [I 16, AV.t (T.lst 1 ek kl), I n, I d, AV.t (T.str (ByteArray.mk #[]))]] [] =
  (some [T.bool true]) := by kernel_rfl
theorem e62o17 (O : Orc)  : stepO PROG ann O (Key.call 62) [I 17] [] =
  (some [T.int IntKind.i64 (2 : Int)]) := by kernel_rfl
theorem e63o17 (O : Orc) (n d : Int) (ek : Bool) (kl : List (List T)) : stepO PROG ann O (Key.call 63) [AV.agg [I 17, AV.t (T.lst 1 ek kl), I n, I d, AV.t (T.str (ByteArray.mk #[]))]] [] =
  (some [T.bool (bif bif bif n == (0 : Int) then true else false then true else false then bif d == (0 : Int) then true else false else false)]) := by kernel_rfl
theorem e64o17 (O : Orc) (n d : Int) (ek : Bool) (kl : List (List T)) : stepO PROG ann O (Key.call 64) [AV.agg [I 17, AV.t (T.lst 1 ek kl), I n, I d, AV.t (T.str (ByteArray.mk #[]))]] [] =
  (some [T.bool true]) := by kernel_rfl
theorem e62o18 (O : Orc)  : stepO PROG ann O (Key.call 62) [I 18] [] =
  (some [T.int IntKind.i64 (2 : Int)]) := by kernel_rfl
theorem e63o18 (O : Orc) (n d : Int) (ek : Bool) (kl : List (List T)) : stepO PROG ann O (Key.call 63) [AV.agg [I 18, AV.t (T.lst 1 ek kl), I n, I d, AV.t (T.str (ByteArray.mk #[]))]] [] =
  (some [T.bool (bif bif bif n == (0 : Int) then true else false then true else false then bif d == (0 : Int) then true else false else false)]) := by kernel_rfl
theorem e64o18 (O : Orc) (n d : Int) (ek : Bool) (kl : List (List T)) : stepO PROG ann O (Key.call 64) [AV.agg [I 18, AV.t (T.lst 1 ek kl), I n, I d, AV.t (T.str (ByteArray.mk #[]))]] [] =
  (some [T.bool true]) := by kernel_rfl
theorem e62o19 (O : Orc)  : stepO PROG ann O (Key.call 62) [I 19] [] =
  (some [T.int IntKind.i64 (2 : Int)]) := by kernel_rfl
theorem e63o19 (O : Orc) (n d : Int) (ek : Bool) (kl : List (List T)) : stepO PROG ann O (Key.call 63) [AV.agg [I 19, AV.t (T.lst 1 ek kl), I n, I d, AV.t (T.str (ByteArray.mk #[]))]] [] =
  (some [T.bool (bif bif bif n == (0 : Int) then true else false then true else false then bif d == (0 : Int) then true else false else false)]) := by kernel_rfl
theorem e64o19 (O : Orc) (n d : Int) (ek : Bool) (kl : List (List T)) : stepO PROG ann O (Key.call 64) [AV.agg [I 19, AV.t (T.lst 1 ek kl), I n, I d, AV.t (T.str (ByteArray.mk #[]))]] [] =
  (some [T.bool true]) := by kernel_rfl
theorem e62o20 (O : Orc)  : stepO PROG ann O (Key.call 62) [I 20] [] =
  (some [T.int IntKind.i64 (2 : Int)]) := by kernel_rfl
theorem e63o20 (O : Orc) (n d : Int) (ek : Bool) (kl : List (List T)) : stepO PROG ann O (Key.call 63) [AV.agg [I 20, AV.t (T.lst 1 ek kl), I n, I d, AV.t (T.str (ByteArray.mk #[]))]] [] =
  (some [T.bool (bif bif bif n == (0 : Int) then true else false then true else false then bif d == (0 : Int) then true else false else false)]) := by kernel_rfl
theorem e64o20 (O : Orc) (n d : Int) (ek : Bool) (kl : List (List T)) : stepO PROG ann O (Key.call 64) [AV.agg [I 20, AV.t (T.lst 1 ek kl), I n, I d, AV.t (T.str (ByteArray.mk #[]))]] [] =
  (some [T.bool true]) := by kernel_rfl
theorem e62o21 (O : Orc)  : stepO PROG ann O (Key.call 62) [I 21] [] =
  (some [T.int IntKind.i64 (2 : Int)]) := by kernel_rfl
theorem e63o21 (O : Orc) (n d : Int) (ek : Bool) (kl : List (List T)) : stepO PROG ann O (Key.call 63) [AV.agg [I 21, AV.t (T.lst 1 ek kl), I n, I d, AV.t (T.str (ByteArray.mk #[]))]] [] =
  (some [T.bool (bif bif bif n == (0 : Int) then true else false then true else false then bif d == (0 : Int) then true else false else false)]) := by kernel_rfl
theorem e64o21 (O : Orc) (n d : Int) (ek : Bool) (kl : List (List T)) : stepO PROG ann O (Key.call 64) [AV.agg [I 21, AV.t (T.lst 1 ek kl), I n, I d, AV.t (T.str (ByteArray.mk #[]))]] [] =
  (some [T.bool true]) := by kernel_rfl
theorem e62o22 (O : Orc)  : stepO PROG ann O (Key.call 62) [I 22] [] =
  (some [T.int IntKind.i64 (2 : Int)]) := by kernel_rfl
theorem e63o22 (O : Orc) (n d : Int) (ek : Bool) (kl : List (List T)) : stepO PROG ann O (Key.call 63) [AV.agg [I 22, AV.t (T.lst 1 ek kl), I n, I d, AV.t (T.str (ByteArray.mk #[]))]] [] =
  (some [T.bool (bif bif bif n == (0 : Int) then true else false then true else false then bif d == (0 : Int) then true else false else false)]) := by kernel_rfl
theorem e64o22 (O : Orc) (n d : Int) (ek : Bool) (kl : List (List T)) : stepO PROG ann O (Key.call 64) [AV.agg [I 22, AV.t (T.lst 1 ek kl), I n, I d, AV.t (T.str (ByteArray.mk #[]))]] [] =
  (some [T.bool true]) := by kernel_rfl
theorem e62o23 (O : Orc)  : stepO PROG ann O (Key.call 62) [I 23] [] =
  (some [T.int IntKind.i64 (1 : Int)]) := by kernel_rfl
theorem e63o23 (O : Orc) (n d : Int) (ek : Bool) (kl : List (List T)) : stepO PROG ann O (Key.call 63) [AV.agg [I 23, AV.t (T.lst 1 ek kl), I n, I d, AV.t (T.str (ByteArray.mk #[]))]] [] =
  (some [T.bool (bif bif bif n == (0 : Int) then true else false then true else true then bif d == (0 : Int) then true else false else false)]) := by kernel_rfl
theorem e64o23 (O : Orc) (n d : Int) (ek : Bool) (kl : List (List T)) : stepO PROG ann O (Key.call 64) [AV.agg [I 23, AV.t (T.lst 1 ek kl), I n, I d, AV.t (T.str (ByteArray.mk #[]))]] [] =
  (some [T.bool (bif decide (n ≥ (0 : Int)) then decide (n ≤ (8 : Int)) else false)]) := by kernel_rfl
end Go.Aev.Gen
