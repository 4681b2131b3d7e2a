/-
  Equations of TopMends.
-/
import Derived.Test.YtmpjdngpblfecaaAevStep
import Derived.Test.YtmpjdngpblfecaaYSort0
import Derived.Test.YtmpjdngpblfecaaChecked
import Derived.KernelRfl
set_option linter.unusedSimpArgs false
set_option linter.unusedVariables false
namespace Go.Aev.Gen
open Go Go.Aev
noncomputable abbrev PROG := Go.Proofs.Try.prog
def ann : Ann := {
  live := (fun f r => match f, r with
    | 3, 8 => some [(4, none), (6, none), (10, none)]
    | 3, 11 => some [(4, none), (6, none), (10, none), (11, none)]
    | 3, 15 => some [(4, none), (6, none), (10, none), (11, none), (12, none), (13, none)]
    | 3, 18 => some [(4, none), (6, none), (10, none), (11, none), (12, none), (13, none), (14, none)]
    | 4, 3 => some [(0, none), (1, none), (2, none), (6, none), (7, some 2000001), (8, none)]
    | 7, 3 => some [(1, none), (3, none), (4, none)]
    | 8, 3 => some [(0, none), (1, none), (5, some 1), (6, none)]
    | 8, 10 => some [(0, none), (1, none), (5, some 1), (6, none), (7, none), (8, none), (9, none)]
    | 8, 18 => some [(5, some 1), (10, none)]
    | 8, 21 => some [(5, some 1), (10, none), (11, none)]
    | 10, 3 => some [(1, none), (3, none), (14, none), (15, none)]
    | 10, 8 => some [(1, none), (3, none), (30, none), (31, none)]
    | 10, 12 => some [(1, none), (3, none), (5, none), (6, none), (30, none), (31, none), (39, none), (40, none), (41, none)]
    | 11, 4 => some [(0, none), (1, none), (5, none), (6, some 1), (15, none), (16, none)]
    | 11, 10 => some [(0, none), (1, none), (5, none), (6, some 1), (7, none), (8, none), (9, some 1), (15, none), (16, none), (29, none), (30, none)]
    | 13, 2 => some [(0, none), (1, none), (2, none), (13, none), (14, none)]
    | 13, 8 => some [(0, none), (1, none), (2, none), (7, none), (8, none), (13, none), (14, none), (24, none), (25, none)]
    | 17, 2 => some [(0, none), (1, none), (5, none)]
    | 17, 6 => some [(0, none), (1, none), (5, none), (6, none), (7, none)]
    | 18, 3 => some [(0, none), (1, none), (5, none), (6, none)]
    | 22, 3 => some [(0, none), (1, none), (5, none), (10, none), (11, none)]
    | 25, 2 => some [(0, none), (1, none), (9, none), (10, none), (11, none)]
    | 27, 6 => some [(1, none), (2, none), (24, none), (25, none), (26, none)]
    | 34, 2 => some [(0, none), (1, none), (8, none), (9, none), (10, none)]
    | 35, 2 => some [(0, none), (1, none), (7, none), (8, none)]
    | _, _ => none),
  join := (fun _ _ => none),
  sig := (fun _ => none),
  bref := (fun f => match f with
    | 24 => some [true, false]
    | _ => none),
  bsig := (fun f _ => match f with
    | 24 => ⟨[], [.sl 1]⟩
    | _ => ⟨[], []⟩),
  nst := (fun d t => match d, t with
    | some 12, 35 => 2
    | _, _ => 0),
  ext := (fun f vals blks => match f with
    | 24 => Go.Aev.Ys.extS vals blks
    | _ => none) }
theorem hm : PROG.follows .mixedOrders = true := by kernel_rfl
noncomputable abbrev K3n8 : Key := nodeKey PROG 3 true 8 [(4, none), (6, none), (10, none)] (0, 0)
noncomputable abbrev K4n3 : Key := nodeKey PROG 4 true 3 [(0, none), (1, none), (2, none), (6, none), (7, some 2000001), (8, none)] (0, 0)
noncomputable abbrev K7n3 : Key := nodeKey PROG 7 true 3 [(1, none), (3, none), (4, none)] (0, 0)
noncomputable abbrev K3n11 : Key := nodeKey PROG 3 true 11 [(4, none), (6, none), (10, none), (11, none)] (0, 0)
noncomputable abbrev K10n3 : Key := nodeKey PROG 10 true 3 [(1, none), (3, none), (14, none), (15, none)] (0, 0)
noncomputable abbrev K11n4 : Key := nodeKey PROG 11 true 4 [(0, none), (1, none), (5, none), (6, some 1), (15, none), (16, none)] (0, 0)
noncomputable abbrev K3n15 : Key := nodeKey PROG 3 true 15 [(4, none), (6, none), (10, none), (11, none), (12, none), (13, none)] (0, 0)
noncomputable abbrev K8n3 : Key := nodeKey PROG 8 true 3 [(0, none), (1, none), (5, some 1), (6, none)] (0, 0)
noncomputable abbrev K10n8 : Key := nodeKey PROG 10 true 8 [(1, none), (3, none), (30, none), (31, none)] (0, 0)
noncomputable abbrev K11n10 : Key := nodeKey PROG 11 true 10 [(0, none), (1, none), (5, none), (6, some 1), (7, none), (8, none), (9, some 1), (15, none), (16, none), (29, none), (30, none)] (0, 0)
noncomputable abbrev K18n3 : Key := nodeKey PROG 18 true 3 [(0, none), (1, none), (5, none), (6, none)] (0, 0)
noncomputable abbrev K17n2 : Key := nodeKey PROG 17 true 2 [(0, none), (1, none), (5, none)] (0, 0)
noncomputable abbrev K3n18 : Key := nodeKey PROG 3 true 18 [(4, none), (6, none), (10, none), (11, none), (12, none), (13, none), (14, none)] (0, 0)
noncomputable abbrev K8n10 : Key := nodeKey PROG 8 true 10 [(0, none), (1, none), (5, some 1), (6, none), (7, none), (8, none), (9, none)] (0, 0)
noncomputable abbrev K8n18 : Key := nodeKey PROG 8 true 18 [(5, some 1), (10, none)] (0, 0)
noncomputable abbrev K27n6 : Key := nodeKey PROG 27 true 6 [(1, none), (2, none), (24, none), (25, none), (26, none)] (0, 0)
noncomputable abbrev K10n12 : Key := nodeKey PROG 10 true 12 [(1, none), (3, none), (5, none), (6, none), (30, none), (31, none), (39, none), (40, none), (41, none)] (0, 0)
noncomputable abbrev K17n6 : Key := nodeKey PROG 17 true 6 [(0, none), (1, none), (5, none), (6, none), (7, none)] (0, 0)
noncomputable abbrev K8n21 : Key := nodeKey PROG 8 true 21 [(5, some 1), (10, none), (11, none)] (0, 0)
noncomputable abbrev K22n3 : Key := nodeKey PROG 22 true 3 [(0, none), (1, none), (5, none), (10, none), (11, none)] (0, 0)
noncomputable abbrev K13n2 : Key := nodeKey PROG 13 true 2 [(0, none), (1, none), (2, none), (13, none), (14, none)] (0, 0)
noncomputable abbrev K34n2 : Key := nodeKey PROG 34 true 2 [(0, none), (1, none), (8, none), (9, none), (10, none)] (0, 0)
noncomputable abbrev K13n8 : Key := nodeKey PROG 13 true 8 [(0, none), (1, none), (2, none), (7, none), (8, none), (13, none), (14, none), (24, none), (25, none)] (0, 0)
noncomputable abbrev K35n2 : Key := nodeKey PROG 35 true 2 [(0, none), (1, none), (7, none), (8, none)] (0, 0)
theorem e3 (O : Orc) (er : Bool) (r : List (List T)) : stepO PROG ann O (Key.call 3) [AV.t (T.lst 1 er r)] [] =
  (gdK none (O (Key.call 4) [AV.t (T.lst 1 er r), I (4 : Int), I (8 : Int)] []) fun l => gdK none l.head? fun x => gdK none (T.int? IntKind.i64 x) fun n => gdK none l.tail.head? fun x => gdK none (T.lst? 1 x) fun p => gdK
 none (O (Key.call 5) [AV.agg [I n, AV.t (T.lst 1 p.fst p.snd)]] []) fun l => gdK none l.head? fun x => gdK none (T.lst? 1 x) fun p_1 => gdK none l.tail.head? fun x => gdK none (T.int? IntKind.i64 x) fun n_1 => gdK none
 l.tail.tail.head? fun x => gdK none (T.int? IntKind.i64 x) fun n_2 => gdK none (O (Key.call 6) [AV.agg [I n, AV.t (T.lst 1 p.fst p.snd)]] []) fun l => gdK none l.head? fun x => gdK none (T.lst? 1 x) fun p_2 => gdK none
 l.tail.head? fun x => gdK none (T.int? IntKind.i64 x) fun n_3 => gdK none l.tail.tail.head? fun x => gdK none (T.int? IntKind.i64 x) fun n_4 => gdK none (O (Key.call 5) [AV.agg [I (1 : Int), AV.t (T.lst 1 false [[T.lst 1
 false [[T.int IntKind.i64 (1 : Int)]]], [T.lst 1 false [[T.int IntKind.i64 (-1 : Int)]]]])]] []) fun l => gdK none l.head? fun x => gdK none (T.lst? 1 x) fun p_3 => gdK none l.tail.head? fun x => gdK none (T.int?
 IntKind.i64 x) fun n_5 => gdK none l.tail.tail.head? fun x => gdK none (T.int? IntKind.i64 x) fun n_6 => gdK none (askO (some !bif bif bif bif !n_1 == (0 : Int) then true else !n_3 == (0 : Int) then true else !n_5 == (0 :
 Int) then true else !(↑p_3.snd.length : Int) == (1 : Int) then true else (↑p_2.snd.length : Int) == (0 : Int)) (O (Key.call 7) [AV.agg [I n, AV.t (T.lst 1 p.fst p.snd)]] [])) fun l => gdK (some !bif bif bif bif !n_1 == (0
 : Int) then true else !n_3 == (0 : Int) then true else !n_5 == (0 : Int) then true else !(↑p_3.snd.length : Int) == (1 : Int) then true else (↑p_2.snd.length : Int) == (0 : Int)) l.head? fun x => gdK (some !bif bif bif
 bif !n_1 == (0 : Int) then true else !n_3 == (0 : Int) then true else !n_5 == (0 : Int) then true else !(↑p_3.snd.length : Int) == (1 : Int) then true else (↑p_2.snd.length : Int) == (0 : Int)) (T.int? IntKind.i64 x) fun
 n => bif bif bif bif bif bif !n_1 == (0 : Int) then true else !n_3 == (0 : Int) then true else !n_5 == (0 : Int) then true else !(↑p_3.snd.length : Int) == (1 : Int) then true else (↑p_2.snd.length : Int) == (0 : Int)
 then true else !((↑p_1.snd.length : Int) == (0 : Int)) == decide (n > (0 : Int)) then some [T.bool false] else O K3n8 [AV.t (T.lst 1 p_1.fst p_1.snd), AV.t (T.lst 1 p_2.fst p_2.snd), I (0 : Int)] []) := by kernel_rfl
theorem e4 (O : Orc) (ea0 : Bool) (a0 : List (List T)) (a1 : Int) (a2 : Int) : stepO PROG ann O (Key.call 4) [(AV.t (T.lst 1 ea0 a0)), (I a1), (I a2)] [] =
  (O K4n3 [AV.t (T.lst 1 ea0 a0), I a1, I a2, AV.ref (Id.c 0) 0, AV.ref (Id.c 1) 0, I (0 : Int)] [Blk.box [I (0 : Int), AV.t (T.emp true)], Blk.box [I a1, AV.own (Id.c 2)], Blk.sl false 1 true []]) := by kernel_rfl
theorem e5 (O : Orc) (a0_0 : Int) (ea0_1 : Bool) (a0_1 : List (List T)) : stepO PROG ann O (Key.call 5) [(AV.agg [(I a0_0), (AV.t (T.lst 1 ea0_1 a0_1))])] [] =
  (gdK none (O (Key.call 9) [AV.agg [I a0_0, AV.t (T.lst 1 ea0_1 a0_1)]] []) fun l => gdK none l.head? fun x => gdK none (T.int? IntKind.i64 x) fun n => gdK none l.tail.head? fun x => gdK none (T.int? IntKind.i64 x) fun n_1
 => bif !n == (0 : Int) then some [T.emp true, T.int IntKind.i64 n, T.int IntKind.i64 n_1] else gdK none (O (Key.call 10) [AV.agg [I a0_0, AV.t (T.lst 1 ea0_1 a0_1)]] []) fun l => gdK none l.head? fun x => gdK none (T.lst?
 1 x) fun p => gdK none (O (Key.call 11) [I (↑p.snd.length : Int), AV.fn 12 [] [AV.t (T.ptr [T.lst 1 p.fst p.snd]), AV.t (T.ptr [T.int IntKind.i64 a0_0, T.lst 1 ea0_1 a0_1])]] []) fun l => gdK none l.head? fun x => gdK
 none (T.lst? 1 x) fun p => some [T.lst 1 p.fst p.snd, T.int IntKind.i64 (0 : Int), T.int IntKind.i64 (0 : Int)]) := by kernel_rfl
theorem e6 (O : Orc) (a0_0 : Int) (ea0_1 : Bool) (a0_1 : List (List T)) : stepO PROG ann O (Key.call 6) [(AV.agg [(I a0_0), (AV.t (T.lst 1 ea0_1 a0_1))])] [] =
  (gdK none (O (Key.call 9) [AV.agg [I a0_0, AV.t (T.lst 1 ea0_1 a0_1)]] []) fun l => gdK none l.head? fun x => gdK none (T.int? IntKind.i64 x) fun n => gdK none l.tail.head? fun x => gdK none (T.int? IntKind.i64 x) fun n_1
 => bif !n == (0 : Int) then some [T.emp true, T.int IntKind.i64 n, T.int IntKind.i64 n_1] else gdK none (O (Key.call 10) [AV.agg [I a0_0, AV.t (T.lst 1 ea0_1 a0_1)]] []) fun l => gdK none l.head? fun x => gdK none (T.lst?
 1 x) fun p => gdK none (O (Key.call 11) [I (↑p.snd.length : Int), AV.fn 15 [] [AV.t (T.ptr [T.lst 1 p.fst p.snd]), AV.t (T.ptr [T.int IntKind.i64 a0_0, T.lst 1 ea0_1 a0_1])]] []) fun l => gdK none l.head? fun x => gdK
 none (T.lst? 1 x) fun p => some [T.lst 1 p.fst p.snd, T.int IntKind.i64 (0 : Int), T.int IntKind.i64 (0 : Int)]) := by kernel_rfl
theorem e7 (O : Orc) (a0_0 : Int) (ea0_1 : Bool) (a0_1 : List (List T)) : stepO PROG ann O (Key.call 7) [(AV.agg [(I a0_0), (AV.t (T.lst 1 ea0_1 a0_1))])] [] =
  (O K7n3 [AV.ref (Id.c 0) 0, I (0 : Int), I (0 : Int)] [Blk.box [I a0_0, AV.t (T.lst 1 ea0_1 a0_1)]]) := by kernel_rfl
theorem e3n8 (O : Orc) (ev4 : Bool) (v4 : List (List T)) (ev6 : Bool) (v6 : List (List T)) (v10 : Int) : stepO PROG ann O K3n8 [(AV.t (T.lst 1 ev4 v4)), (AV.t (T.lst 1 ev6 v6)), (I v10)] [] =
  (bif decide (v10 < (↑v4.length : Int)) then O K3n11 [AV.t (T.lst 1 ev4 v4), AV.t (T.lst 1 ev6 v6), I v10, I (0 : Int)] [] else some [T.bool true]) := by kernel_rfl
theorem e4n3 (O : Orc) (ev0 : Bool) (v0 : List (List T)) (v1 : Int) (v2 : Int) (v8 : Int) (c0_0 : Int) (ec0_1 : Bool) (c1_0 : Int) (ec2 : Bool) (c2 : List (List T)) : stepO PROG ann O K4n3 [(AV.t (T.lst 1 ev0 v0)), (I v1), (I v2), (AV.ref (Id.c 0) 0), (AV.ref (Id.c 1) 0), (I v8)] [(Blk.box [(I c0_0), (AV.t (T.emp ec0_1))]), (Blk.box [(I c1_0), (AV.own (Id.c 2))]), (Blk.sl false 1 ec2 c2)] =
  (bif bif decide (v8 < (↑v0.length : Int)) then decide (v8 < v2) else false then gdK none (if (0 : Int) ≤ v8 ∧ v8 < (↑v0.length : Int) then some () else none) fun x => gdK none v0[v8.toNat]? fun l => gdK none l.head? fun x
 => gdK none (T.int? IntKind.i64 x) fun n => gdK none (O (Key.call 8) [I n, I v1] []) fun l => gdK none l.head? fun x => gdK none (T.lst? 1 x) fun p => gdK none (small 24 (c2.length + [[T.lst 1 p.fst p.snd]].length)) fun x
 => O K4n3 [AV.t (T.lst 1 ev0 v0), I v1, I v2, AV.ref (Id.c 0) 0, AV.ref (Id.c 1) 0, I (IntKind.i64.wrap (v8 + (1 : Int)))] [Blk.box [I c0_0, AV.t (T.emp ec0_1)], Blk.box [I c1_0, AV.own (Id.c 2)], Blk.sl false 1 (ec2 &&
 false) (c2 ++ [[T.lst 1 p.fst p.snd]])] else some [T.int IntKind.i64 c1_0, T.lst 1 ec2 c2]) := by kernel_rfl
theorem e9 (O : Orc) (a0_0 : Int) (ea0_1 : Bool) (a0_1 : List (List T)) : stepO PROG ann O (Key.call 9) [(AV.agg [(I a0_0), (AV.t (T.lst 1 ea0_1 a0_1))])] [] =
  (gdK none (O (Key.call 21) [AV.agg [I a0_0, AV.t (T.lst 1 ea0_1 a0_1)]] []) fun l => gdK none l.head? fun x => gdK none (T.int? IntKind.i64 x) fun n => gdK none l.tail.head? fun x => gdK none (T.int? IntKind.i64 x) fun n_1
 => bif !n == (0 : Int) then some [T.int IntKind.i64 n, T.int IntKind.i64 n_1] else bif decide ((↑a0_1.length : Int) > (12 : Int)) then some [T.int IntKind.i64 (2 : Int), T.int IntKind.i64 (-1 : Int)] else some [T.int
 IntKind.i64 (0 : Int), T.int IntKind.i64 (0 : Int)]) := by kernel_rfl
theorem e10 (O : Orc) (a0_0 : Int) (ea0_1 : Bool) (a0_1 : List (List T)) : stepO PROG ann O (Key.call 10) [(AV.agg [(I a0_0), (AV.t (T.lst 1 ea0_1 a0_1))])] [] =
  (gdK none (mkOk (↑a0_1.length : Int) (↑a0_1.length : Int)) fun x => O K10n3 [AV.ref (Id.c 0) 0, AV.own (Id.c 1), I (↑(nilRows (↑a0_1.length : Int).toNat).length : Int), I (0 : Int)] [Blk.box [I a0_0, AV.t (T.lst 1 ea0_1
 a0_1)], Blk.rows false 1 0 1 (↑a0_1.length : Int).toNat (nilRows (↑a0_1.length : Int).toNat)]) := by kernel_rfl
theorem e11 (O : Orc) (a0 : Int) (ea1c_0 : Bool) (a1c_0 : List (List T)) (a1c_1_0 : Int) (ea1c_1_1 : Bool) (a1c_1_1 : List (List T)) : stepO PROG ann O (Key.call 11) [(I a0), (AV.fn 12 [] [(AV.t (T.ptr [(T.lst 1 ea1c_0 a1c_0)])), (AV.t (T.ptr [(T.int IntKind.i64 a1c_1_0), (T.lst 1 ea1c_1_1 a1c_1_1)]))])] [] =
  (gdK none (if a0 < (0 : Int) then none else some ()) fun x => gdK none (mkOk (IntKind.i64.wrap ((1 : Int) * (2 : Int) ^ min a0.toNat 64)) (IntKind.i64.wrap ((1 : Int) * (2 : Int) ^ min a0.toNat 64))) fun x => O K11n4 [I
 a0, AV.fn 12 [] [AV.t (T.ptr [T.lst 1 ea1c_0 a1c_0]), AV.t (T.ptr [T.int IntKind.i64 a1c_1_0, T.lst 1 ea1c_1_1 a1c_1_1])], AV.own (Id.c 0), AV.own (Id.c 1), AV.t (T.int IntKind.i64 (↑(List.replicate (IntKind.i64.wrap ((1
 : Int) * (2 : Int) ^ min a0.toNat 64)).toNat [T.bool false]).length : Int)), I (0 : Int)] [Blk.sl false 1 false (List.replicate (IntKind.i64.wrap ((1 : Int) * (2 : Int) ^ min a0.toNat 64)).toNat [T.bool false]), Blk.sl
 false 1 true []]) := by kernel_rfl
theorem e11s2 (O : Orc) (a0 : Int) (ea1c_0 : Bool) (a1c_0 : List (List T)) (a1c_1_0 : Int) (ea1c_1_1 : Bool) (a1c_1_1 : List (List T)) : stepO PROG ann O (Key.call 11) [(I a0), (AV.fn 15 [] [(AV.t (T.ptr [(T.lst 1 ea1c_0 a1c_0)])), (AV.t (T.ptr [(T.int IntKind.i64 a1c_1_0), (T.lst 1 ea1c_1_1 a1c_1_1)]))])] [] =
  (gdK none (if a0 < (0 : Int) then none else some ()) fun x => gdK none (mkOk (IntKind.i64.wrap ((1 : Int) * (2 : Int) ^ min a0.toNat 64)) (IntKind.i64.wrap ((1 : Int) * (2 : Int) ^ min a0.toNat 64))) fun x => O K11n4 [I
 a0, AV.fn 15 [] [AV.t (T.ptr [T.lst 1 ea1c_0 a1c_0]), AV.t (T.ptr [T.int IntKind.i64 a1c_1_0, T.lst 1 ea1c_1_1 a1c_1_1])], AV.own (Id.c 0), AV.own (Id.c 1), AV.t (T.int IntKind.i64 (↑(List.replicate (IntKind.i64.wrap ((1
 : Int) * (2 : Int) ^ min a0.toNat 64)).toNat [T.bool false]).length : Int)), I (0 : Int)] [Blk.sl false 1 false (List.replicate (IntKind.i64.wrap ((1 : Int) * (2 : Int) ^ min a0.toNat 64)).toNat [T.bool false]), Blk.sl
 false 1 true []]) := by kernel_rfl
theorem e7n3 (O : Orc) (v3 : Int) (v4 : Int) (c0_0 : Int) (ec0_1 : Bool) (c0_1 : List (List T)) : stepO PROG ann O K7n3 [(AV.ref (Id.c 0) 0), (I v3), (I v4)] [(Blk.box [(I c0_0), (AV.t (T.lst 1 ec0_1 c0_1))])] =
  (gdK none (if c0_0 < (0 : Int) then none else some ()) fun x => bif decide (v4 < IntKind.i64.wrap ((1 : Int) * (2 : Int) ^ min c0_0.toNat 64)) then gdK none (O (Key.call 18) [I v4, I c0_0] []) fun l => gdK none l.head? fun
 x => gdK none (T.lst? 1 x) fun p => gdK none (O (Key.call 17) [AV.t (T.lst 1 ec0_1 c0_1), AV.t (T.lst 1 p.fst p.snd)] []) fun l => gdK none l.head? fun x => gdK none x.bool? fun b => bif b then O K7n3 [AV.ref (Id.c 0) 0,
 I (IntKind.i64.wrap (v3 + (1 : Int))), I (IntKind.i64.wrap (v4 + (1 : Int)))] [Blk.box [I c0_0, AV.t (T.lst 1 ec0_1 c0_1)]] else O K7n3 [AV.ref (Id.c 0) 0, I v3, I (IntKind.i64.wrap (v4 + (1 : Int)))] [Blk.box [I c0_0,
 AV.t (T.lst 1 ec0_1 c0_1)]] else some [T.int IntKind.i64 v3]) := by kernel_rfl
theorem e3n11 (O : Orc) (ev4 : Bool) (v4 : List (List T)) (ev6 : Bool) (v6 : List (List T)) (v10 : Int) (v11 : Int) : stepO PROG ann O K3n11 [(AV.t (T.lst 1 ev4 v4)), (AV.t (T.lst 1 ev6 v6)), (I v10), (I v11)] [] =
  (bif decide (v11 < (↑v6.length : Int)) then O K3n15 [AV.t (T.lst 1 ev4 v4), AV.t (T.lst 1 ev6 v6), I v10, I v11, B false, I (0 : Int)] [] else O K3n8 [AV.t (T.lst 1 ev4 v4), AV.t (T.lst 1 ev6 v6), I (IntKind.i64.wrap (v10
 + (1 : Int)))] []) := by kernel_rfl
theorem e8 (O : Orc) (a0 : Int) (a1 : Int) : stepO PROG ann O (Key.call 8) [(I a0), (I a1)] [] =
  (O K8n3 [I a0, I a1, AV.own (Id.c 0), I (0 : Int)] [Blk.sl false 1 true []]) := by kernel_rfl
theorem e21 (O : Orc) (a0_0 : Int) (ea0_1 : Bool) (a0_1 : List (List T)) : stepO PROG ann O (Key.call 21) [(AV.agg [(I a0_0), (AV.t (T.lst 1 ea0_1 a0_1))])] [] =
  (gdK none (O (Key.call 27) [AV.agg [I a0_0, AV.t (T.lst 1 ea0_1 a0_1)]] []) fun l => gdK none l.head? fun x => gdK none (T.int? IntKind.i64 x) fun n => gdK none l.tail.head? fun x => gdK none (T.int? IntKind.i64 x) fun n_1
 => bif !n == (0 : Int) then some [T.int IntKind.i64 n, T.int IntKind.i64 n_1] else bif decide (a0_0 > (16 : Int)) then some [T.int IntKind.i64 (2 : Int), T.int IntKind.i64 (-1 : Int)] else some [T.int IntKind.i64 (0 :
 Int), T.int IntKind.i64 (0 : Int)]) := by kernel_rfl
theorem e10n3 (O : Orc) (v14 : Int) (v15 : Int) (c0_0 : Int) (ec0_1 : Bool) (c0_1 : List (List T)) (ec1 : Bool) (xc1 : Nat) (c1 : List Row) : stepO PROG ann O K10n3 [(AV.ref (Id.c 0) 0), (AV.own (Id.c 1)), (I v14), (I v15)] [(Blk.box [(I c0_0), (AV.t (T.lst 1 ec0_1 c0_1))]), (Blk.rows ec1 1 0 1 xc1 c1)] =
  (bif decide (v15 < v14) then gdK none (if c0_0 < (0 : Int) then none else some ()) fun x => gdK none (mkOk (IntKind.i64.wrap ((IntKind.i64.wrap (IntKind.i64.wrap ((1 : Int) * (2 : Int) ^ min c0_0.toNat 64) + (63 :
 Int))).tdiv (64 : Int))) (IntKind.i64.wrap ((IntKind.i64.wrap (IntKind.i64.wrap ((1 : Int) * (2 : Int) ^ min c0_0.toNat 64) + (63 : Int))).tdiv (64 : Int)))) fun x => gdK none (if (0 : Int) ≤ v15 ∧ v15 < (↑c1.length :
 Int) then some () else none) fun x => gdK none c1[v15.toNat]? fun x => O K10n3 [AV.ref (Id.c 0) 0, AV.own (Id.c 1), I v14, I (IntKind.i64.wrap (v15 + (1 : Int)))] [Blk.box [I c0_0, AV.t (T.lst 1 ec0_1 c0_1)], Blk.rows ec1
 1 0 1 (xc1 + 1) (c1.set v15.toNat { n := xc1, cs := x.cs, own := some (false, List.replicate (IntKind.i64.wrap ((IntKind.i64.wrap (IntKind.i64.wrap ((1 : Int) * (2 : Int) ^ min c0_0.toNat 64) + (63 : Int))).tdiv (64 :
 Int))).toNat [T.int IntKind.u64 (0 : Int)]) })] else gdK none (if c0_0 < (0 : Int) then none else some ()) fun x => O K10n8 [AV.ref (Id.c 0) 0, AV.own (Id.c 1), I (IntKind.i64.wrap ((1 : Int) * (2 : Int) ^ min c0_0.toNat
 64)), I (0 : Int)] [Blk.box [I c0_0, AV.t (T.lst 1 ec0_1 c0_1)], Blk.rows ec1 1 0 1 xc1 c1]) := by kernel_rfl
theorem e11n4 (O : Orc) (v0 : Int) (ev1c_0 : Bool) (v1c_0 : List (List T)) (v1c_1_0 : Int) (ev1c_1_1 : Bool) (v1c_1_1 : List (List T)) (v15 : Int) (v16 : Int) (ec0 : Bool) (c0 : List (List T)) (ec1 : Bool) (c1 : List (List T)) : stepO PROG ann O K11n4 [(I v0), (AV.fn 12 [] [(AV.t (T.ptr [(T.lst 1 ev1c_0 v1c_0)])), (AV.t (T.ptr [(T.int IntKind.i64 v1c_1_0), (T.lst 1 ev1c_1_1 v1c_1_1)]))]), (AV.own (Id.c 0)), (AV.own (Id.c 1)), (I v15), (I v16)] [(Blk.sl false 1 ec0 c0), (Blk.sl false 1 ec1 c1)] =
  (bif decide (v16 < v15) then gdK none (O (Key.call 12) [I v16, AV.t (T.ptr [T.lst 1 ev1c_0 v1c_0]), AV.t (T.ptr [T.int IntKind.i64 v1c_1_0, T.lst 1 ev1c_1_1 v1c_1_1])] []) fun l => gdK none l.head? fun x => gdK none
 x.bool? fun b => gdK none (if (0 : Int) ≤ v16 ∧ v16 < (↑c0.length : Int) then some () else none) fun x => gdK none (storeIn v16.toNat 0 [T.bool b] c0) fun l => gdK none (if (0 : Int) ≤ v16 ∧ v16 < (↑l.length : Int) then
 some () else none) fun x => gdK none l[v16.toNat]? fun l_1 => gdK none l_1.head? fun x => gdK none x.bool? fun b => O K11n10 [I v0, AV.fn 12 [] [AV.t (T.ptr [T.lst 1 ev1c_0 v1c_0]), AV.t (T.ptr [T.int IntKind.i64 v1c_1_0,
 T.lst 1 ev1c_1_1 v1c_1_1])], AV.own (Id.c 0), AV.own (Id.c 1), I v16, B b, AV.own (Id.c 2), I v15, I v16, I v0, I (0 : Int)] [Blk.sl false 1 ec0 l, Blk.sl false 1 ec1 c1, Blk.sl false 1 true []] else gdK none (O (Key.call
 24) [AV.own (Id.c 0), AV.fn 25 [] []] [Blk.sl false 1 ec1 c1]) fun l => gdK none (l.head?.bind fun z => T.lst? 1 z) fun p => some [T.lst 1 p.fst p.snd]) := by kernel_rfl
theorem e11n4s2 (O : Orc) (v0 : Int) (ev1c_0 : Bool) (v1c_0 : List (List T)) (v1c_1_0 : Int) (ev1c_1_1 : Bool) (v1c_1_1 : List (List T)) (v15 : Int) (v16 : Int) (ec0 : Bool) (c0 : List (List T)) (ec1 : Bool) (c1 : List (List T)) : stepO PROG ann O K11n4 [(I v0), (AV.fn 15 [] [(AV.t (T.ptr [(T.lst 1 ev1c_0 v1c_0)])), (AV.t (T.ptr [(T.int IntKind.i64 v1c_1_0), (T.lst 1 ev1c_1_1 v1c_1_1)]))]), (AV.own (Id.c 0)), (AV.own (Id.c 1)), (I v15), (I v16)] [(Blk.sl false 1 ec0 c0), (Blk.sl false 1 ec1 c1)] =
  (bif decide (v16 < v15) then gdK none (O (Key.call 15) [I v16, AV.t (T.ptr [T.lst 1 ev1c_0 v1c_0]), AV.t (T.ptr [T.int IntKind.i64 v1c_1_0, T.lst 1 ev1c_1_1 v1c_1_1])] []) fun l => gdK none l.head? fun x => gdK none
 x.bool? fun b => gdK none (if (0 : Int) ≤ v16 ∧ v16 < (↑c0.length : Int) then some () else none) fun x => gdK none (storeIn v16.toNat 0 [T.bool b] c0) fun l => gdK none (if (0 : Int) ≤ v16 ∧ v16 < (↑l.length : Int) then
 some () else none) fun x => gdK none l[v16.toNat]? fun l_1 => gdK none l_1.head? fun x => gdK none x.bool? fun b => O K11n10 [I v0, AV.fn 15 [] [AV.t (T.ptr [T.lst 1 ev1c_0 v1c_0]), AV.t (T.ptr [T.int IntKind.i64 v1c_1_0,
 T.lst 1 ev1c_1_1 v1c_1_1])], AV.own (Id.c 0), AV.own (Id.c 1), I v16, B b, AV.own (Id.c 2), I v15, I v16, I v0, I (0 : Int)] [Blk.sl false 1 ec0 l, Blk.sl false 1 ec1 c1, Blk.sl false 1 true []] else gdK none (O (Key.call
 24) [AV.own (Id.c 0), AV.fn 25 [] []] [Blk.sl false 1 ec1 c1]) fun l => gdK none (l.head?.bind fun z => T.lst? 1 z) fun p => some [T.lst 1 p.fst p.snd]) := by kernel_rfl
theorem e18 (O : Orc) (a0 : Int) (a1 : Int) : stepO PROG ann O (Key.call 18) [(I a0), (I a1)] [] =
  (O K18n3 [I a0, I a1, AV.t (T.emp true), I (0 : Int)] []) := by kernel_rfl
theorem e17 (O : Orc) (ea0 : Bool) (a0 : List (List T)) (ea1 : Bool) (a1 : List (List T)) : stepO PROG ann O (Key.call 17) [(AV.t (T.lst 1 ea0 a0)), (AV.t (T.lst 1 ea1 a1))] [] =
  (O K17n2 [AV.t (T.lst 1 ea0 a0), AV.t (T.lst 1 ea1 a1), I (0 : Int)] []) := by kernel_rfl
theorem e3n15 (O : Orc) (ev4 : Bool) (v4 : List (List T)) (ev6 : Bool) (v6 : List (List T)) (v10 : Int) (v11 : Int) (v12 : Bool) (v13 : Int) : stepO PROG ann O K3n15 [(AV.t (T.lst 1 ev4 v4)), (AV.t (T.lst 1 ev6 v6)), (I v10), (I v11), (B v12), (I v13)] [] =
  (gdK none (if (0 : Int) ≤ v10 ∧ v10 < (↑v4.length : Int) then some () else none) fun x => gdK none v4[v10.toNat]? fun l => gdK none l.head? fun x => gdK none (T.lst? 1 x) fun p => bif decide (v13 < (↑p.snd.length : Int))
 then O K3n18 [AV.t (T.lst 1 ev4 v4), AV.t (T.lst 1 ev6 v6), I v10, I v11, B v12, I v13, I (0 : Int)] [] else bif !v12 then some [T.bool false] else O K3n11 [AV.t (T.lst 1 ev4 v4), AV.t (T.lst 1 ev6 v6), I v10, I
 (IntKind.i64.wrap (v11 + (1 : Int)))] []) := by kernel_rfl
theorem e8n3 (O : Orc) (v0 : Int) (v1 : Int) (v6 : Int) (ec0 : Bool) (c0 : List (List T)) : stepO PROG ann O K8n3 [(I v0), (I v1), (AV.own (Id.c 0)), (I v6)] [(Blk.sl false 1 ec0 c0)] =
  (gdK none (O (Key.call 19) [I v0, I (3 : Int)] []) fun l => gdK none l.head? fun x => gdK none (T.int? IntKind.i64 x) fun n => bif decide (v6 ≤ n) then gdK none (O (Key.call 19) [I (IntKind.i64.wrap (v0.tdiv (3 : Int))), I
 v1] []) fun l => gdK none l.head? fun x => gdK none (T.int? IntKind.i64 x) fun n => gdK none (if v1 = (0 : Int) then none else some ()) fun x => O K8n10 [I (IntKind.i64.wrap ((IntKind.i64.wrap (v0.tdiv (3 : Int))).tdiv
 v1)), I v1, AV.own (Id.c 0), I v6, I (IntKind.i64.wrap ((1 : Int) + n)), B false, I (0 : Int)] [Blk.sl false 1 ec0 c0] else O K8n18 [AV.own (Id.c 0), I (1 : Int)] [Blk.sl false 1 ec0 c0]) := by kernel_rfl
theorem e27 (O : Orc) (a0_0 : Int) (ea0_1 : Bool) (a0_1 : List (List T)) : stepO PROG ann O (Key.call 27) [(AV.agg [(I a0_0), (AV.t (T.lst 1 ea0_1 a0_1))])] [] =
  (bif bif decide (a0_0 < (0 : Int)) then true else decide (a0_0 > (120 : Int)) then some [T.int IntKind.i64 (3 : Int), T.int IntKind.i64 (0 : Int)] else bif decide ((↑a0_1.length : Int) > (400 : Int)) then some [T.int
 IntKind.i64 (2 : Int), T.int IntKind.i64 (0 : Int)] else O K27n6 [AV.ref (Id.c 0) 0, AV.ref (Id.c 1) 0, AV.t (T.lst 1 ea0_1 a0_1), I (↑a0_1.length : Int), I (0 : Int)] [Blk.box [I a0_0, AV.t (T.lst 1 ea0_1 a0_1)], Blk.box
 [I (0 : Int), I (0 : Int)]]) := by kernel_rfl
theorem e10n8 (O : Orc) (v30 : Int) (v31 : Int) (c0_0 : Int) (ec0_1 : Bool) (c0_1 : List (List T)) (ec1 : Bool) (xc1 : Nat) (c1 : List Row) : stepO PROG ann O K10n8 [(AV.ref (Id.c 0) 0), (AV.own (Id.c 1)), (I v30), (I v31)] [(Blk.box [(I c0_0), (AV.t (T.lst 1 ec0_1 c0_1))]), (Blk.rows ec1 1 0 1 xc1 c1)] =
  (bif decide (v31 < v30) then gdK none (O (Key.call 22) [I c0_0, I v31] []) fun l => gdK none l.head? fun x => gdK none (T.lst? 1 x) fun p => O K10n12 [AV.ref (Id.c 0) 0, AV.own (Id.c 1), I v31, AV.t (T.lst 1 p.fst p.snd),
 I v30, I v31, AV.t (T.lst 1 ec0_1 c0_1), I (↑c0_1.length : Int), I (0 : Int)] [Blk.box [I c0_0, AV.t (T.lst 1 ec0_1 c0_1)], Blk.rows ec1 1 0 1 xc1 c1] else gdK none (if allOwn c1 = true then some () else none) fun x =>
 some [T.lst 1 ec1 (List.map (rowT 0 1) c1)]) := by kernel_rfl
theorem e12 (O : Orc) (a0 : Int) (ea1 : Bool) (a1 : List (List T)) (a2_0 : Int) (ea2_1 : Bool) (a2_1 : List (List T)) : stepO PROG ann O (Key.call 12) [(I a0), (AV.t (T.ptr [(T.lst 1 ea1 a1)])), (AV.t (T.ptr [(T.int IntKind.i64 a2_0), (T.lst 1 ea2_1 a2_1)]))] [] =
  (gdK none (O (Key.call 13) [AV.t (T.lst 1 ea1 a1), I a2_0, AV.fn 14 [] [AV.t (T.ptr [T.int IntKind.i64 a0])]] []) fun l => gdK none l.head? fun x => gdK none x.bool? fun b => some [T.bool !b]) := by kernel_rfl
theorem e11n10 (O : Orc) (v0 : Int) (ev1c_0 : Bool) (v1c_0 : List (List T)) (v1c_1_0 : Int) (ev1c_1_1 : Bool) (v1c_1_1 : List (List T)) (v7 : Int) (v8 : Bool) (v15 : Int) (v16 : Int) (v29 : Int) (v30 : Int) (ec0 : Bool) (c0 : List (List T)) (ec1 : Bool) (c1 : List (List T)) (ec2 : Bool) (c2 : List (List T)) : stepO PROG ann O K11n10 [(I v0), (AV.fn 12 [] [(AV.t (T.ptr [(T.lst 1 ev1c_0 v1c_0)])), (AV.t (T.ptr [(T.int IntKind.i64 v1c_1_0), (T.lst 1 ev1c_1_1 v1c_1_1)]))]), (AV.own (Id.c 0)), (AV.own (Id.c 1)), (I v7), (B v8), (AV.own (Id.c 2)), (I v15), (I v16), (I v29), (I v30)] [(Blk.sl false 1 ec0 c0), (Blk.sl false 1 ec1 c1), (Blk.sl false 1 ec2 c2)] =
  (bif decide (v30 < v29) then gdK none (if v30 < (0 : Int) then none else some ()) fun x => bif IntKind.i64.wrap (↑(BitVec.ofInt 64 (v7.fdiv ((2 : Int) ^ min v30.toNat 64)) &&& BitVec.ofInt 64 (1 : Int)).toNat : Int) == (1
 : Int) then gdK none (small 8 (c2.length + [[T.int IntKind.i64 v30]].length)) fun x => gdK (some v8) (if v30 < (0 : Int) then none else some ()) fun x => gdK (some v8) (if (0 : Int) ≤ IntKind.i64.wrap (↑(BitVec.ofInt 64
 v7 &&& ~~~BitVec.ofInt 64 (IntKind.i64.wrap ((1 : Int) * (2 : Int) ^ min v30.toNat 64))).toNat : Int) ∧ IntKind.i64.wrap (↑(BitVec.ofInt 64 v7 &&& ~~~BitVec.ofInt 64 (IntKind.i64.wrap ((1 : Int) * (2 : Int) ^ min
 v30.toNat 64))).toNat : Int) < (↑c0.length : Int) then some () else none) fun x => gdK (some v8) c0[(IntKind.i64.wrap (↑(BitVec.ofInt 64 v7 &&& ~~~BitVec.ofInt 64 (IntKind.i64.wrap ((1 : Int) * (2 : Int) ^ min v30.toNat
 64))).toNat : Int)).toNat]? fun l => gdK (some v8) l.head? fun x => gdK (some v8) x.bool? fun b => O K11n10 [I v0, AV.fn 12 [] [AV.t (T.ptr [T.lst 1 ev1c_0 v1c_0]), AV.t (T.ptr [T.int IntKind.i64 v1c_1_0, T.lst 1 ev1c_1_1
 v1c_1_1])], AV.own (Id.c 0), AV.own (Id.c 1), I v7, B (bif v8 then !b else false), AV.own (Id.c 2), I v15, I v16, I v29, I (IntKind.i64.wrap (v30 + (1 : Int)))] [Blk.sl false 1 ec0 c0, Blk.sl false 1 ec1 c1, Blk.sl false
 1 (ec2 && false) (c2 ++ [[T.int IntKind.i64 v30]])] else O K11n10 [I v0, AV.fn 12 [] [AV.t (T.ptr [T.lst 1 ev1c_0 v1c_0]), AV.t (T.ptr [T.int IntKind.i64 v1c_1_0, T.lst 1 ev1c_1_1 v1c_1_1])], AV.own (Id.c 0), AV.own (Id.c
 1), I v7, B v8, AV.own (Id.c 2), I v15, I v16, I v29, I (IntKind.i64.wrap (v30 + (1 : Int)))] [Blk.sl false 1 ec0 c0, Blk.sl false 1 ec1 c1, Blk.sl false 1 ec2 c2] else bif v8 then gdK none (small 24 (c1.length + [[T.lst
 1 ec2 c2]].length)) fun x => O K11n4 [I v0, AV.fn 12 [] [AV.t (T.ptr [T.lst 1 ev1c_0 v1c_0]), AV.t (T.ptr [T.int IntKind.i64 v1c_1_0, T.lst 1 ev1c_1_1 v1c_1_1])], AV.own (Id.c 0), AV.own (Id.c 1), I v15, I
 (IntKind.i64.wrap (v16 + (1 : Int)))] [Blk.sl false 1 ec0 c0, Blk.sl false 1 (ec1 && false) (c1 ++ [[T.lst 1 ec2 c2]])] else O K11n4 [I v0, AV.fn 12 [] [AV.t (T.ptr [T.lst 1 ev1c_0 v1c_0]), AV.t (T.ptr [T.int IntKind.i64
 v1c_1_0, T.lst 1 ev1c_1_1 v1c_1_1])], AV.own (Id.c 0), AV.own (Id.c 1), I v15, I (IntKind.i64.wrap (v16 + (1 : Int)))] [Blk.sl false 1 ec0 c0, Blk.sl false 1 ec1 c1]) := by kernel_rfl
theorem e15 (O : Orc) (a0 : Int) (ea1 : Bool) (a1 : List (List T)) (a2_0 : Int) (ea2_1 : Bool) (a2_1 : List (List T)) : stepO PROG ann O (Key.call 15) [(I a0), (AV.t (T.ptr [(T.lst 1 ea1 a1)])), (AV.t (T.ptr [(T.int IntKind.i64 a2_0), (T.lst 1 ea2_1 a2_1)]))] [] =
  (gdK none (O (Key.call 13) [AV.t (T.lst 1 ea1 a1), I a2_0, AV.fn 16 [] [AV.t (T.ptr [T.int IntKind.i64 a0])]] []) fun l => gdK none l.head? fun x => gdK none x.bool? fun b => some [T.bool b]) := by kernel_rfl
theorem e11n10s2 (O : Orc) (v0 : Int) (ev1c_0 : Bool) (v1c_0 : List (List T)) (v1c_1_0 : Int) (ev1c_1_1 : Bool) (v1c_1_1 : List (List T)) (v7 : Int) (v8 : Bool) (v15 : Int) (v16 : Int) (v29 : Int) (v30 : Int) (ec0 : Bool) (c0 : List (List T)) (ec1 : Bool) (c1 : List (List T)) (ec2 : Bool) (c2 : List (List T)) : stepO PROG ann O K11n10 [(I v0), (AV.fn 15 [] [(AV.t (T.ptr [(T.lst 1 ev1c_0 v1c_0)])), (AV.t (T.ptr [(T.int IntKind.i64 v1c_1_0), (T.lst 1 ev1c_1_1 v1c_1_1)]))]), (AV.own (Id.c 0)), (AV.own (Id.c 1)), (I v7), (B v8), (AV.own (Id.c 2)), (I v15), (I v16), (I v29), (I v30)] [(Blk.sl false 1 ec0 c0), (Blk.sl false 1 ec1 c1), (Blk.sl false 1 ec2 c2)] =
  (bif decide (v30 < v29) then gdK none (if v30 < (0 : Int) then none else some ()) fun x => bif IntKind.i64.wrap (↑(BitVec.ofInt 64 (v7.fdiv ((2 : Int) ^ min v30.toNat 64)) &&& BitVec.ofInt 64 (1 : Int)).toNat : Int) == (1
 : Int) then gdK none (small 8 (c2.length + [[T.int IntKind.i64 v30]].length)) fun x => gdK (some v8) (if v30 < (0 : Int) then none else some ()) fun x => gdK (some v8) (if (0 : Int) ≤ IntKind.i64.wrap (↑(BitVec.ofInt 64
 v7 &&& ~~~BitVec.ofInt 64 (IntKind.i64.wrap ((1 : Int) * (2 : Int) ^ min v30.toNat 64))).toNat : Int) ∧ IntKind.i64.wrap (↑(BitVec.ofInt 64 v7 &&& ~~~BitVec.ofInt 64 (IntKind.i64.wrap ((1 : Int) * (2 : Int) ^ min
 v30.toNat 64))).toNat : Int) < (↑c0.length : Int) then some () else none) fun x => gdK (some v8) c0[(IntKind.i64.wrap (↑(BitVec.ofInt 64 v7 &&& ~~~BitVec.ofInt 64 (IntKind.i64.wrap ((1 : Int) * (2 : Int) ^ min v30.toNat
 64))).toNat : Int)).toNat]? fun l => gdK (some v8) l.head? fun x => gdK (some v8) x.bool? fun b => O K11n10 [I v0, AV.fn 15 [] [AV.t (T.ptr [T.lst 1 ev1c_0 v1c_0]), AV.t (T.ptr [T.int IntKind.i64 v1c_1_0, T.lst 1 ev1c_1_1
 v1c_1_1])], AV.own (Id.c 0), AV.own (Id.c 1), I v7, B (bif v8 then !b else false), AV.own (Id.c 2), I v15, I v16, I v29, I (IntKind.i64.wrap (v30 + (1 : Int)))] [Blk.sl false 1 ec0 c0, Blk.sl false 1 ec1 c1, Blk.sl false
 1 (ec2 && false) (c2 ++ [[T.int IntKind.i64 v30]])] else O K11n10 [I v0, AV.fn 15 [] [AV.t (T.ptr [T.lst 1 ev1c_0 v1c_0]), AV.t (T.ptr [T.int IntKind.i64 v1c_1_0, T.lst 1 ev1c_1_1 v1c_1_1])], AV.own (Id.c 0), AV.own (Id.c
 1), I v7, B v8, AV.own (Id.c 2), I v15, I v16, I v29, I (IntKind.i64.wrap (v30 + (1 : Int)))] [Blk.sl false 1 ec0 c0, Blk.sl false 1 ec1 c1, Blk.sl false 1 ec2 c2] else bif v8 then gdK none (small 24 (c1.length + [[T.lst
 1 ec2 c2]].length)) fun x => O K11n4 [I v0, AV.fn 15 [] [AV.t (T.ptr [T.lst 1 ev1c_0 v1c_0]), AV.t (T.ptr [T.int IntKind.i64 v1c_1_0, T.lst 1 ev1c_1_1 v1c_1_1])], AV.own (Id.c 0), AV.own (Id.c 1), I v15, I
 (IntKind.i64.wrap (v16 + (1 : Int)))] [Blk.sl false 1 ec0 c0, Blk.sl false 1 (ec1 && false) (c1 ++ [[T.lst 1 ec2 c2]])] else O K11n4 [I v0, AV.fn 15 [] [AV.t (T.ptr [T.lst 1 ev1c_0 v1c_0]), AV.t (T.ptr [T.int IntKind.i64
 v1c_1_0, T.lst 1 ev1c_1_1 v1c_1_1])], AV.own (Id.c 0), AV.own (Id.c 1), I v15, I (IntKind.i64.wrap (v16 + (1 : Int)))] [Blk.sl false 1 ec0 c0, Blk.sl false 1 ec1 c1]) := by kernel_rfl
theorem e18n3 (O : Orc) (v0 : Int) (v1 : Int) (ev5 : Bool) (v6 : Int) : stepO PROG ann O K18n3 [(I v0), (I v1), (AV.t (T.emp ev5)), (I v6)] [] =
  (bif decide (v6 < v1) then gdK none (if v6 < (0 : Int) then none else some ()) fun x => O K18n3 [I v0, I v1, AV.own (Id.c 0), I (IntKind.i64.wrap (v6 + (1 : Int)))] [Blk.sl false 1 (ev5 && false) [[T.bool (IntKind.i64.wrap
 (↑(BitVec.ofInt 64 (v0.fdiv ((2 : Int) ^ min v6.toNat 64)) &&& BitVec.ofInt 64 (1 : Int)).toNat : Int) == (1 : Int))]]] else some [T.emp ev5]) := by kernel_rfl
theorem e17n2 (O : Orc) (ev0 : Bool) (v0 : List (List T)) (ev1 : Bool) (v1 : List (List T)) (v5 : Int) : stepO PROG ann O K17n2 [(AV.t (T.lst 1 ev0 v0)), (AV.t (T.lst 1 ev1 v1)), (I v5)] [] =
  (bif decide (v5 < (↑v0.length : Int)) then O K17n6 [AV.t (T.lst 1 ev0 v0), AV.t (T.lst 1 ev1 v1), I v5, B false, I (0 : Int)] [] else some [T.bool true]) := by kernel_rfl
theorem e3n18 (O : Orc) (ev4 : Bool) (v4 : List (List T)) (ev6 : Bool) (v6 : List (List T)) (v10 : Int) (v11 : Int) (v12 : Bool) (v13 : Int) (v14 : Int) : stepO PROG ann O K3n18 [(AV.t (T.lst 1 ev4 v4)), (AV.t (T.lst 1 ev6 v6)), (I v10), (I v11), (B v12), (I v13), (I v14)] [] =
  (gdK none (if (0 : Int) ≤ v11 ∧ v11 < (↑v6.length : Int) then some () else none) fun x => gdK none v6[v11.toNat]? fun l => gdK none l.head? fun x => gdK none (T.lst? 1 x) fun p => bif decide (v14 < (↑p.snd.length : Int))
 then gdK (some !v12) (if (0 : Int) ≤ v10 ∧ v10 < (↑v4.length : Int) then some () else none) fun x => gdK (some !v12) v4[v10.toNat]? fun l => gdK (some !v12) l.head? fun x => gdK (some !v12) (T.lst? 1 x) fun p => gdK (some
 !v12) (if (0 : Int) ≤ v13 ∧ v13 < (↑p.snd.length : Int) then some () else none) fun x => gdK (some !v12) p.snd[v13.toNat]? fun l => gdK (some !v12) l.head? fun x => gdK (some !v12) (T.int? IntKind.i64 x) fun n => gdK
 (some !v12) (if (0 : Int) ≤ v11 ∧ v11 < (↑v6.length : Int) then some () else none) fun x => gdK (some !v12) v6[v11.toNat]? fun l => gdK (some !v12) l.head? fun x => gdK (some !v12) (T.lst? 1 x) fun p => gdK (some !v12)
 (if (0 : Int) ≤ v14 ∧ v14 < (↑p.snd.length : Int) then some () else none) fun x => gdK (some !v12) p.snd[v14.toNat]? fun l => gdK (some !v12) l.head? fun x => gdK (some !v12) (T.int? IntKind.i64 x) fun n_1 => O K3n18
 [AV.t (T.lst 1 ev4 v4), AV.t (T.lst 1 ev6 v6), I v10, I v11, B (bif v12 then true else n == n_1), I v13, I (IntKind.i64.wrap (v14 + (1 : Int)))] [] else O K3n15 [AV.t (T.lst 1 ev4 v4), AV.t (T.lst 1 ev6 v6), I v10, I v11,
 B v12, I (IntKind.i64.wrap (v13 + (1 : Int)))] []) := by kernel_rfl
theorem e19 (O : Orc) (a0 : Int) (a1 : Int) : stepO PROG ann O (Key.call 19) [(I a0), (I a1)] [] =
  (gdK none (if a1 = (0 : Int) then none else some ()) fun x => bif decide (a0.tmod a1 < (0 : Int)) then some [T.int IntKind.i64 (IntKind.i64.wrap (a0.tmod a1 + a1))] else some [T.int IntKind.i64 (a0.tmod a1)]) := by kernel_rfl
theorem e8n10 (O : Orc) (v0 : Int) (v1 : Int) (v6 : Int) (v7 : Int) (v8 : Bool) (v9 : Int) (ec0 : Bool) (c0 : List (List T)) : stepO PROG ann O K8n10 [(I v0), (I v1), (AV.own (Id.c 0)), (I v6), (I v7), (B v8), (I v9)] [(Blk.sl false 1 ec0 c0)] =
  (bif decide (v9 < (↑c0.length : Int)) then gdK (some !v8) (if (0 : Int) ≤ v9 ∧ v9 < (↑c0.length : Int) then some () else none) fun x => gdK (some !v8) c0[v9.toNat]? fun l => gdK (some !v8) l.head? fun x => gdK (some !v8)
 (T.int? IntKind.i64 x) fun n => gdK (some !bif v8 then true else n == v7) (if (0 : Int) ≤ v9 ∧ v9 < (↑c0.length : Int) then some () else none) fun x => gdK (some !bif v8 then true else n == v7) c0[v9.toNat]? fun l => gdK
 (some !bif v8 then true else n == v7) l.head? fun x => gdK (some !bif v8 then true else n == v7) (T.int? IntKind.i64 x) fun n_1 => O K8n10 [I v0, I v1, AV.own (Id.c 0), I v6, I v7, AV.t (T.bool (bif bif v8 then true else
 n == v7 then true else n_1 == IntKind.i64.wrap ((0 : Int) - v7))), I (IntKind.i64.wrap (v9 + (1 : Int)))] [Blk.sl false 1 ec0 c0] else bif v8 then O K8n3 [I v0, I v1, AV.own (Id.c 0), I (IntKind.i64.wrap (v6 + (1 :
 Int)))] [Blk.sl false 1 ec0 c0] else bif !v0.tmod (2 : Int) == (0 : Int) then gdK none (small 8 (c0.length + [[T.int IntKind.i64 (IntKind.i64.wrap ((0 : Int) - v7))]].length)) fun x => O K8n3 [I v0, I v1, AV.own (Id.c 0),
 I (IntKind.i64.wrap (v6 + (1 : Int)))] [Blk.sl false 1 (ec0 && false) (c0 ++ [[T.int IntKind.i64 (IntKind.i64.wrap ((0 : Int) - v7))]])] else gdK none (small 8 (c0.length + [[T.int IntKind.i64 v7]].length)) fun x => O
 K8n3 [I v0, I v1, AV.own (Id.c 0), I (IntKind.i64.wrap (v6 + (1 : Int)))] [Blk.sl false 1 (ec0 && false) (c0 ++ [[T.int IntKind.i64 v7]])]) := by kernel_rfl
theorem e8n18 (O : Orc) (v10 : Int) (ec0 : Bool) (c0 : List (List T)) : stepO PROG ann O K8n18 [(AV.own (Id.c 0)), (I v10)] [(Blk.sl false 1 ec0 c0)] =
  (bif decide (v10 < (↑c0.length : Int)) then O K8n21 [AV.own (Id.c 0), I v10, I v10] [Blk.sl false 1 ec0 c0] else some [T.lst 1 ec0 c0]) := by kernel_rfl
theorem e27n6 (O : Orc) (ev24 : Bool) (v24 : List (List T)) (v25 : Int) (v26 : Int) (c0_0 : Int) (ec0_1 : Bool) (c0_1 : List (List T)) (c1_0 : Int) (c1_1 : Int) : stepO PROG ann O K27n6 [(AV.ref (Id.c 0) 0), (AV.ref (Id.c 1) 0), (AV.t (T.lst 1 ev24 v24)), (I v25), (I v26)] [(Blk.box [(I c0_0), (AV.t (T.lst 1 ec0_1 c0_1))]), (Blk.box [(I c1_0), (I c1_1)])] =
  (bif decide (v26 < v25) then gdK none (if (0 : Int) ≤ v26 ∧ v26 < (↑v24.length : Int) then some () else none) fun x => gdK none v24[v26.toNat]? fun l => gdK none l.head? fun x => gdK none (T.lst? 1 x) fun p => bif decide
 ((↑p.snd.length : Int) > (24 : Int)) then some [T.int IntKind.i64 (2 : Int), T.int IntKind.i64 v26] else gdK none (O (Key.call 34) [AV.t (T.lst 1 p.fst p.snd), I c0_0] []) fun l => gdK none l.head? fun x => gdK none
 (T.int? IntKind.i64 x) fun n => gdK none l.tail.head? fun x => gdK none (T.int? IntKind.i64 x) fun n => bif !n == (0 : Int) then some [T.int IntKind.i64 n, T.int IntKind.i64 v26] else O K27n6 [AV.ref (Id.c 0) 0, AV.ref
 (Id.c 1) 0, AV.t (T.lst 1 ev24 v24), I v25, I (IntKind.i64.wrap (v26 + (1 : Int)))] [Blk.box [I c0_0, AV.t (T.lst 1 ec0_1 c0_1)], Blk.box [I c1_0, I c1_1]] else some [T.int IntKind.i64 (0 : Int), T.int IntKind.i64 (0 :
 Int)]) := by kernel_rfl
theorem e22 (O : Orc) (a0 : Int) (a1 : Int) : stepO PROG ann O (Key.call 22) [(I a0), (I a1)] [] =
  (gdK none (mkOk a0 a0) fun x => O K22n3 [I a0, I a1, AV.own (Id.c 0), I (↑(List.replicate a0.toNat [T.bool false]).length : Int), I (0 : Int)] [Blk.sl false 1 false (List.replicate a0.toNat [T.bool false])]) := by kernel_rfl
theorem e10n12 (O : Orc) (v5 : Int) (ev6 : Bool) (v6 : List (List T)) (v30 : Int) (v31 : Int) (ev39 : Bool) (v39 : List (List T)) (v40 : Int) (v41 : Int) (c0_0 : Int) (ec0_1 : Bool) (c0_1 : List (List T)) (ec1 : Bool) (xc1 : Nat) (c1 : List Row) : stepO PROG ann O K10n12 [(AV.ref (Id.c 0) 0), (AV.own (Id.c 1)), (I v5), (AV.t (T.lst 1 ev6 v6)), (I v30), (I v31), (AV.t (T.lst 1 ev39 v39)), (I v40), (I v41)] [(Blk.box [(I c0_0), (AV.t (T.lst 1 ec0_1 c0_1))]), (Blk.rows ec1 1 0 1 xc1 c1)] =
  (bif decide (v41 < v40) then gdK none (if (0 : Int) ≤ v41 ∧ v41 < (↑v39.length : Int) then some () else none) fun x => gdK none v39[v41.toNat]? fun l => gdK none l.head? fun x => gdK none (T.lst? 1 x) fun p => gdK none (O
 (Key.call 23) [AV.t (T.lst 1 p.fst p.snd), AV.t (T.lst 1 ev6 v6)] []) fun l => gdK none l.head? fun x => gdK none x.bool? fun b => bif b then gdK none (if (0 : Int) ≤ v41 ∧ v41 < (↑c1.length : Int) then some () else none)
 fun x => gdK none c1[v41.toNat]? fun x => gdK none (findR x.n c1) fun p => gdK none (if (0 : Int) ≤ IntKind.i64.wrap (v5.tdiv (64 : Int)) ∧ IntKind.i64.wrap (v5.tdiv (64 : Int)) < (↑p.snd.length : Int) then some () else
 none) fun x_1 => gdK none (findR x.n c1) fun p => gdK none p.snd[(IntKind.i64.wrap (v5.tdiv (64 : Int))).toNat]? fun l => gdK none l.head? fun x_2 => gdK none (T.int? IntKind.u64 x_2) fun n => gdK none (if v5.tmod (64 :
 Int) < (0 : Int) then none else some ()) fun x_3 => gdK none (findR x.n c1) fun p => gdK none (if (0 : Int) ≤ IntKind.i64.wrap (v5.tdiv (64 : Int)) ∧ IntKind.i64.wrap (v5.tdiv (64 : Int)) < (↑p.snd.length : Int) then some
 () else none) fun x_4 => gdK none (findR x.n c1) fun p => gdK none (storeIn (IntKind.i64.wrap (v5.tdiv (64 : Int))).toNat 0 [T.int IntKind.u64 (IntKind.u64.wrap (↑(BitVec.ofInt 64 n ||| BitVec.ofInt 64 (IntKind.u64.wrap
 ((1 : Int) * (2 : Int) ^ min (v5.tmod (64 : Int)).toNat 64))).toNat : Int))] p.snd) fun l => O K10n12 [AV.ref (Id.c 0) 0, AV.own (Id.c 1), I v5, AV.t (T.lst 1 ev6 v6), I v30, I v31, AV.t (T.lst 1 ev39 v39), I v40, I
 (IntKind.i64.wrap (v41 + (1 : Int)))] [Blk.box [I c0_0, AV.t (T.lst 1 ec0_1 c0_1)], Blk.rows ec1 1 0 1 xc1 (setR x.n (some (p.fst, l)) c1)] else O K10n12 [AV.ref (Id.c 0) 0, AV.own (Id.c 1), I v5, AV.t (T.lst 1 ev6 v6), I
 v30, I v31, AV.t (T.lst 1 ev39 v39), I v40, I (IntKind.i64.wrap (v41 + (1 : Int)))] [Blk.box [I c0_0, AV.t (T.lst 1 ec0_1 c0_1)], Blk.rows ec1 1 0 1 xc1 c1] else O K10n8 [AV.ref (Id.c 0) 0, AV.own (Id.c 1), I v30, I
 (IntKind.i64.wrap (v31 + (1 : Int)))] [Blk.box [I c0_0, AV.t (T.lst 1 ec0_1 c0_1)], Blk.rows ec1 1 0 1 xc1 c1]) := by kernel_rfl
theorem e13 (O : Orc) (ea0 : Bool) (a0 : List (List T)) (a1 : Int) (a2c : Int) : stepO PROG ann O (Key.call 13) [(AV.t (T.lst 1 ea0 a0)), (I a1), (AV.fn 14 [] [(AV.t (T.ptr [(T.int IntKind.i64 a2c)]))])] [] =
  (gdK none (if a1 < (0 : Int) then none else some ()) fun x => O K13n2 [AV.t (T.lst 1 ea0 a0), I a1, AV.fn 14 [] [AV.t (T.ptr [T.int IntKind.i64 a2c])], AV.t (T.int IntKind.i64 (IntKind.i64.wrap ((IntKind.i64.wrap
 (IntKind.i64.wrap ((1 : Int) * (2 : Int) ^ min a1.toNat 64) + (63 : Int))).tdiv (64 : Int)))), I (0 : Int)] []) := by kernel_rfl
theorem e13s2 (O : Orc) (ea0 : Bool) (a0 : List (List T)) (a1 : Int) (a2c : Int) : stepO PROG ann O (Key.call 13) [(AV.t (T.lst 1 ea0 a0)), (I a1), (AV.fn 16 [] [(AV.t (T.ptr [(T.int IntKind.i64 a2c)]))])] [] =
  (gdK none (if a1 < (0 : Int) then none else some ()) fun x => O K13n2 [AV.t (T.lst 1 ea0 a0), I a1, AV.fn 16 [] [AV.t (T.ptr [T.int IntKind.i64 a2c])], AV.t (T.int IntKind.i64 (IntKind.i64.wrap ((IntKind.i64.wrap
 (IntKind.i64.wrap ((1 : Int) * (2 : Int) ^ min a1.toNat 64) + (63 : Int))).tdiv (64 : Int)))), I (0 : Int)] []) := by kernel_rfl
theorem e18n3s2 (O : Orc) (v0 : Int) (v1 : Int) (v6 : Int) (ec0 : Bool) (c0 : List (List T)) : stepO PROG ann O K18n3 [(I v0), (I v1), (AV.own (Id.c 0)), (I v6)] [(Blk.sl false 1 ec0 c0)] =
  (bif decide (v6 < v1) then gdK none (if v6 < (0 : Int) then none else some ()) fun x => gdK none (small 1 (c0.length + [[T.bool (IntKind.i64.wrap (↑(BitVec.ofInt 64 (v0.fdiv ((2 : Int) ^ min v6.toNat 64)) &&& BitVec.ofInt
 64 (1 : Int)).toNat : Int) == (1 : Int))]].length)) fun x => O K18n3 [I v0, I v1, AV.own (Id.c 0), I (IntKind.i64.wrap (v6 + (1 : Int)))] [Blk.sl false 1 (ec0 && false) (c0 ++ [[T.bool (IntKind.i64.wrap (↑(BitVec.ofInt 64
 (v0.fdiv ((2 : Int) ^ min v6.toNat 64)) &&& BitVec.ofInt 64 (1 : Int)).toNat : Int) == (1 : Int))]])] else some [T.lst 1 ec0 c0]) := by kernel_rfl
theorem e17n6 (O : Orc) (ev0 : Bool) (v0 : List (List T)) (ev1 : Bool) (v1 : List (List T)) (v5 : Int) (v6 : Bool) (v7 : Int) : stepO PROG ann O K17n6 [(AV.t (T.lst 1 ev0 v0)), (AV.t (T.lst 1 ev1 v1)), (I v5), (B v6), (I v7)] [] =
  (gdK none (if (0 : Int) ≤ v5 ∧ v5 < (↑v0.length : Int) then some () else none) fun x => gdK none v0[v5.toNat]? fun l => gdK none l.head? fun x => gdK none (T.lst? 1 x) fun p => bif decide (v7 < (↑p.snd.length : Int)) then
 gdK (some !v6) (if (0 : Int) ≤ v5 ∧ v5 < (↑v0.length : Int) then some () else none) fun x => gdK (some !v6) v0[v5.toNat]? fun l => gdK (some !v6) l.head? fun x => gdK (some !v6) (T.lst? 1 x) fun p => gdK (some !v6) (if (0
 : Int) ≤ v7 ∧ v7 < (↑p.snd.length : Int) then some () else none) fun x => gdK (some !v6) p.snd[v7.toNat]? fun l => gdK (some !v6) l.head? fun x => gdK (some !v6) (T.int? IntKind.i64 x) fun n => gdK none (askO (some !v6)
 (O (Key.call 26) [I n, AV.t (T.lst 1 ev1 v1)] [])) fun l => gdK (some !v6) l.head? fun x => gdK (some !v6) x.bool? fun b => O K17n6 [AV.t (T.lst 1 ev0 v0), AV.t (T.lst 1 ev1 v1), I v5, B (bif v6 then true else b), I
 (IntKind.i64.wrap (v7 + (1 : Int)))] [] else bif !v6 then some [T.bool false] else O K17n2 [AV.t (T.lst 1 ev0 v0), AV.t (T.lst 1 ev1 v1), I (IntKind.i64.wrap (v5 + (1 : Int)))] []) := by kernel_rfl
theorem e8n21 (O : Orc) (v10 : Int) (v11 : Int) (ec0 : Bool) (c0 : List (List T)) : stepO PROG ann O K8n21 [(AV.own (Id.c 0)), (I v10), (I v11)] [(Blk.sl false 1 ec0 c0)] =
  (gdK (some (decide (v11 > (0 : Int)))) (if (0 : Int) ≤ v11 ∧ v11 < (↑c0.length : Int) then some () else none) fun x => gdK (some (decide (v11 > (0 : Int)))) c0[v11.toNat]? fun l => gdK (some (decide (v11 > (0 : Int))))
 l.head? fun x => gdK (some (decide (v11 > (0 : Int)))) (T.int? IntKind.i64 x) fun n => gdK none (askO (some (decide (v11 > (0 : Int)))) (O (Key.call 20) [I n] [])) fun l => gdK (some (decide (v11 > (0 : Int)))) l.head?
 fun x => gdK (some (decide (v11 > (0 : Int)))) (T.int? IntKind.i64 x) fun n => gdK (some (decide (v11 > (0 : Int)))) (if (0 : Int) ≤ IntKind.i64.wrap (v11 - (1 : Int)) ∧ IntKind.i64.wrap (v11 - (1 : Int)) < (↑c0.length :
 Int) then some () else none) fun x => gdK (some (decide (v11 > (0 : Int)))) c0[(IntKind.i64.wrap (v11 - (1 : Int))).toNat]? fun l => gdK (some (decide (v11 > (0 : Int)))) l.head? fun x => gdK (some (decide (v11 > (0 :
 Int)))) (T.int? IntKind.i64 x) fun n_1 => gdK none (askO (some (decide (v11 > (0 : Int)))) (O (Key.call 20) [I n_1] [])) fun l => gdK (some (decide (v11 > (0 : Int)))) l.head? fun x => gdK (some (decide (v11 > (0 :
 Int)))) (T.int? IntKind.i64 x) fun n_2 => bif bif decide (v11 > (0 : Int)) then decide (n < n_2) else false then gdK none (if (0 : Int) ≤ IntKind.i64.wrap (v11 - (1 : Int)) ∧ IntKind.i64.wrap (v11 - (1 : Int)) <
 (↑c0.length : Int) then some () else none) fun x => gdK none c0[(IntKind.i64.wrap (v11 - (1 : Int))).toNat]? fun l => gdK none l.head? fun x => gdK none (T.int? IntKind.i64 x) fun n => gdK none (if (0 : Int) ≤ v11 ∧ v11 <
 (↑c0.length : Int) then some () else none) fun x => gdK none c0[v11.toNat]? fun l => gdK none l.head? fun x => gdK none (T.int? IntKind.i64 x) fun n_3 => gdK none (if (0 : Int) ≤ v11 ∧ v11 < (↑c0.length : Int) then some
 () else none) fun x => gdK none (storeIn v11.toNat 0 [T.int IntKind.i64 n] c0) fun l => gdK none (if (0 : Int) ≤ IntKind.i64.wrap (v11 - (1 : Int)) ∧ IntKind.i64.wrap (v11 - (1 : Int)) < (↑l.length : Int) then some ()
 else none) fun x => gdK none (storeIn (IntKind.i64.wrap (v11 - (1 : Int))).toNat 0 [T.int IntKind.i64 n_3] l) fun l => O K8n21 [AV.own (Id.c 0), I v10, I (IntKind.i64.wrap (v11 - (1 : Int)))] [Blk.sl false 1 ec0 l] else O
 K8n18 [AV.own (Id.c 0), I (IntKind.i64.wrap (v10 + (1 : Int)))] [Blk.sl false 1 ec0 c0]) := by kernel_rfl
theorem e34 (O : Orc) (ea0 : Bool) (a0 : List (List T)) (a1 : Int) : stepO PROG ann O (Key.call 34) [(AV.t (T.lst 1 ea0 a0)), (I a1)] [] =
  (O K34n2 [AV.t (T.lst 1 ea0 a0), I a1, AV.t (T.lst 1 ea0 a0), I (↑a0.length : Int), I (0 : Int)] []) := by kernel_rfl
theorem e22n3 (O : Orc) (v0 : Int) (v1 : Int) (v10 : Int) (v11 : Int) (ec0 : Bool) (c0 : List (List T)) : stepO PROG ann O K22n3 [(I v0), (I v1), (AV.own (Id.c 0)), (I v10), (I v11)] [(Blk.sl false 1 ec0 c0)] =
  (bif decide (v11 < v10) then gdK none (if IntKind.i64.wrap (IntKind.i64.wrap (v0 - (1 : Int)) - v11) < (0 : Int) then none else some ()) fun x => gdK none (if (0 : Int) ≤ v11 ∧ v11 < (↑c0.length : Int) then some () else
 none) fun x => gdK none (storeIn v11.toNat 0 [T.bool (IntKind.i64.wrap (↑(BitVec.ofInt 64 (v1.fdiv ((2 : Int) ^ min (IntKind.i64.wrap (IntKind.i64.wrap (v0 - (1 : Int)) - v11)).toNat 64)) &&& BitVec.ofInt 64 (1 :
 Int)).toNat : Int) == (1 : Int))] c0) fun l => O K22n3 [I v0, I v1, AV.own (Id.c 0), I v10, I (IntKind.i64.wrap (v11 + (1 : Int)))] [Blk.sl false 1 ec0 l] else some [T.lst 1 ec0 c0]) := by kernel_rfl
theorem e23 (O : Orc) (ea0 : Bool) (a0 : List (List T)) (ea1 : Bool) (a1 : List (List T)) : stepO PROG ann O (Key.call 23) [(AV.t (T.lst 1 ea0 a0)), (AV.t (T.lst 1 ea1 a1))] [] =
  (gdK none (O (Key.call 28) [AV.t (T.lst 1 ea0 a0), AV.fn 29 [] [AV.t (T.ptr [T.lst 1 ea1 a1])]] []) fun l => gdK none l.head? fun x => gdK none x.bool? fun b => some [T.bool b]) := by kernel_rfl
theorem e13n2 (O : Orc) (ev0 : Bool) (v0 : List (List T)) (v1 : Int) (v2c : Int) (v13 : Int) (v14 : Int) : stepO PROG ann O K13n2 [(AV.t (T.lst 1 ev0 v0)), (I v1), (AV.fn 14 [] [(AV.t (T.ptr [(T.int IntKind.i64 v2c)]))]), (I v13), (I v14)] [] =
  (bif decide (v14 < v13) then bif decide (v1 < (6 : Int)) then gdK none (if v1 < (0 : Int) then none else some ()) fun x => O K13n8 [AV.t (T.lst 1 ev0 v0), I v1, AV.fn 14 [] [AV.t (T.ptr [T.int IntKind.i64 v2c])], I v14,
 AV.t (T.int IntKind.u64 (IntKind.u64.wrap (IntKind.u64.wrap ((1 : Int) * (2 : Int) ^ min (IntKind.u64.wrap ((1 : Int) * (2 : Int) ^ min v1.toNat 64)).toNat 64) - (1 : Int)))), I v13, I v14, I (↑v0.length : Int), I (0 :
 Int)] [] else O K13n8 [AV.t (T.lst 1 ev0 v0), I v1, AV.fn 14 [] [AV.t (T.ptr [T.int IntKind.i64 v2c])], I v14, AV.t (T.int IntKind.u64 (18446744073709551615 : Int)), I v13, I v14, I (↑v0.length : Int), I (0 : Int)] []
 else some [T.bool false]) := by kernel_rfl
theorem e13n2s2 (O : Orc) (ev0 : Bool) (v0 : List (List T)) (v1 : Int) (v2c : Int) (v13 : Int) (v14 : Int) : stepO PROG ann O K13n2 [(AV.t (T.lst 1 ev0 v0)), (I v1), (AV.fn 16 [] [(AV.t (T.ptr [(T.int IntKind.i64 v2c)]))]), (I v13), (I v14)] [] =
  (bif decide (v14 < v13) then bif decide (v1 < (6 : Int)) then gdK none (if v1 < (0 : Int) then none else some ()) fun x => O K13n8 [AV.t (T.lst 1 ev0 v0), I v1, AV.fn 16 [] [AV.t (T.ptr [T.int IntKind.i64 v2c])], I v14,
 AV.t (T.int IntKind.u64 (IntKind.u64.wrap (IntKind.u64.wrap ((1 : Int) * (2 : Int) ^ min (IntKind.u64.wrap ((1 : Int) * (2 : Int) ^ min v1.toNat 64)).toNat 64) - (1 : Int)))), I v13, I v14, I (↑v0.length : Int), I (0 :
 Int)] [] else O K13n8 [AV.t (T.lst 1 ev0 v0), I v1, AV.fn 16 [] [AV.t (T.ptr [T.int IntKind.i64 v2c])], I v14, AV.t (T.int IntKind.u64 (18446744073709551615 : Int)), I v13, I v14, I (↑v0.length : Int), I (0 : Int)] []
 else some [T.bool false]) := by kernel_rfl
theorem e26 (O : Orc) (a0 : Int) (ea1 : Bool) (a1 : List (List T)) : stepO PROG ann O (Key.call 26) [(I a0), (AV.t (T.lst 1 ea1 a1))] [] =
  (bif decide (a0 < (0 : Int)) then gdK none (if (0 : Int) ≤ IntKind.i64.wrap (IntKind.i64.wrap ((0 : Int) - a0) - (1 : Int)) ∧ IntKind.i64.wrap (IntKind.i64.wrap ((0 : Int) - a0) - (1 : Int)) < (↑a1.length : Int) then some
 () else none) fun x => gdK none a1[(IntKind.i64.wrap (IntKind.i64.wrap ((0 : Int) - a0) - (1 : Int))).toNat]? fun l => gdK none l.head? fun x => gdK none x.bool? fun b => some [T.bool !b] else gdK none (if (0 : Int) ≤
 IntKind.i64.wrap (a0 - (1 : Int)) ∧ IntKind.i64.wrap (a0 - (1 : Int)) < (↑a1.length : Int) then some () else none) fun x => gdK none a1[(IntKind.i64.wrap (a0 - (1 : Int))).toNat]? fun l => gdK none l.head? fun x => gdK
 none x.bool? fun b => some [T.bool b]) := by kernel_rfl
theorem e20 (O : Orc) (a0 : Int) : stepO PROG ann O (Key.call 20) [(I a0)] [] =
  (bif decide (a0 < (0 : Int)) then some [T.int IntKind.i64 (IntKind.i64.wrap ((0 : Int) - a0))] else some [T.int IntKind.i64 a0]) := by kernel_rfl
theorem e34n2 (O : Orc) (ev0 : Bool) (v0 : List (List T)) (v1 : Int) (ev8 : Bool) (v8 : List (List T)) (v9 : Int) (v10 : Int) : stepO PROG ann O K34n2 [(AV.t (T.lst 1 ev0 v0)), (I v1), (AV.t (T.lst 1 ev8 v8)), (I v9), (I v10)] [] =
  (bif decide (v10 < v9) then gdK none (if (0 : Int) ≤ v10 ∧ v10 < (↑v8.length : Int) then some () else none) fun x => gdK none v8[v10.toNat]? fun l => gdK none l.head? fun x => gdK none (T.int? IntKind.i64 x) fun n => bif
 bif bif n == (0 : Int) then true else decide (n < IntKind.i64.wrap ((0 : Int) - v1)) then true else decide (n > v1) then some [T.int IntKind.i64 v10, T.int IntKind.i64 (3 : Int)] else gdK none (inB (0 : Int) v10
 (↑v0.length : Int)) fun x => gdK none (O (Key.call 28) [AV.t (T.lst 1 ev0 (sub (0 : Int) v10 v0)), AV.fn 48 [] [AV.t (T.ptr [T.int IntKind.i64 n])]] []) fun l => gdK none l.head? fun x => gdK none x.bool? fun b => bif b
 then some [T.int IntKind.i64 v10, T.int IntKind.i64 (7 : Int)] else O K34n2 [AV.t (T.lst 1 ev0 v0), I v1, AV.t (T.lst 1 ev8 v8), I v9, I (IntKind.i64.wrap (v10 + (1 : Int)))] [] else some [T.int IntKind.i64 (0 : Int),
 T.int IntKind.i64 (0 : Int)]) := by kernel_rfl
theorem e28 (O : Orc) (ea0 : Bool) (a0 : List (List T)) (ea1c : Bool) (a1c : List (List T)) : stepO PROG ann O (Key.call 28) [(AV.t (T.lst 1 ea0 a0)), (AV.fn 29 [] [(AV.t (T.ptr [(T.lst 1 ea1c a1c)]))])] [] =
  (gdK none (O (Key.call 35) [AV.t (T.lst 1 ea0 a0), AV.fn 29 [] [AV.t (T.ptr [T.lst 1 ea1c a1c])]] []) fun l => gdK none l.head? fun x => gdK none (T.int? IntKind.i64 x) fun n => some [T.bool (decide (n ≥ (0 : Int)))]) := by kernel_rfl
theorem e13n8 (O : Orc) (ev0 : Bool) (v0 : List (List T)) (v1 : Int) (v2c : Int) (v7 : Int) (v8 : Int) (v13 : Int) (v14 : Int) (v24 : Int) (v25 : Int) : stepO PROG ann O K13n8 [(AV.t (T.lst 1 ev0 v0)), (I v1), (AV.fn 14 [] [(AV.t (T.ptr [(T.int IntKind.i64 v2c)]))]), (I v7), (AV.t (T.int IntKind.u64 v8)), (I v13), (I v14), (I v24), (I v25)] [] =
  (bif decide (v25 < v24) then gdK none (O (Key.call 14) [I v25, AV.t (T.ptr [T.int IntKind.i64 v2c])] []) fun l => gdK none l.head? fun x => gdK none x.bool? fun b => bif b then gdK none (if (0 : Int) ≤ v25 ∧ v25 <
 (↑v0.length : Int) then some () else none) fun x => gdK none v0[v25.toNat]? fun l => gdK none l.head? fun x => gdK none (T.lst? 1 x) fun p => gdK none (if (0 : Int) ≤ v7 ∧ v7 < (↑p.snd.length : Int) then some () else
 none) fun x => gdK none p.snd[v7.toNat]? fun l => gdK none l.head? fun x => gdK none (T.int? IntKind.u64 x) fun n => O K13n8 [AV.t (T.lst 1 ev0 v0), I v1, AV.fn 14 [] [AV.t (T.ptr [T.int IntKind.i64 v2c])], I v7, AV.t
 (T.int IntKind.u64 (IntKind.u64.wrap (↑(BitVec.ofInt 64 v8 &&& BitVec.ofInt 64 n).toNat : Int))), I v13, I v14, I v24, I (IntKind.i64.wrap (v25 + (1 : Int)))] [] else O K13n8 [AV.t (T.lst 1 ev0 v0), I v1, AV.fn 14 []
 [AV.t (T.ptr [T.int IntKind.i64 v2c])], I v7, AV.t (T.int IntKind.u64 v8), I v13, I v14, I v24, I (IntKind.i64.wrap (v25 + (1 : Int)))] [] else bif !v8 == (0 : Int) then some [T.bool true] else O K13n2 [AV.t (T.lst 1 ev0
 v0), I v1, AV.fn 14 [] [AV.t (T.ptr [T.int IntKind.i64 v2c])], I v13, I (IntKind.i64.wrap (v14 + (1 : Int)))] []) := by kernel_rfl
theorem e13n8s2 (O : Orc) (ev0 : Bool) (v0 : List (List T)) (v1 : Int) (v2c : Int) (v7 : Int) (v8 : Int) (v13 : Int) (v14 : Int) (v24 : Int) (v25 : Int) : stepO PROG ann O K13n8 [(AV.t (T.lst 1 ev0 v0)), (I v1), (AV.fn 16 [] [(AV.t (T.ptr [(T.int IntKind.i64 v2c)]))]), (I v7), (AV.t (T.int IntKind.u64 v8)), (I v13), (I v14), (I v24), (I v25)] [] =
  (bif decide (v25 < v24) then gdK none (O (Key.call 16) [I v25, AV.t (T.ptr [T.int IntKind.i64 v2c])] []) fun l => gdK none l.head? fun x => gdK none x.bool? fun b => bif b then gdK none (if (0 : Int) ≤ v25 ∧ v25 <
 (↑v0.length : Int) then some () else none) fun x => gdK none v0[v25.toNat]? fun l => gdK none l.head? fun x => gdK none (T.lst? 1 x) fun p => gdK none (if (0 : Int) ≤ v7 ∧ v7 < (↑p.snd.length : Int) then some () else
 none) fun x => gdK none p.snd[v7.toNat]? fun l => gdK none l.head? fun x => gdK none (T.int? IntKind.u64 x) fun n => O K13n8 [AV.t (T.lst 1 ev0 v0), I v1, AV.fn 16 [] [AV.t (T.ptr [T.int IntKind.i64 v2c])], I v7, AV.t
 (T.int IntKind.u64 (IntKind.u64.wrap (↑(BitVec.ofInt 64 v8 &&& BitVec.ofInt 64 n).toNat : Int))), I v13, I v14, I v24, I (IntKind.i64.wrap (v25 + (1 : Int)))] [] else O K13n8 [AV.t (T.lst 1 ev0 v0), I v1, AV.fn 16 []
 [AV.t (T.ptr [T.int IntKind.i64 v2c])], I v7, AV.t (T.int IntKind.u64 v8), I v13, I v14, I v24, I (IntKind.i64.wrap (v25 + (1 : Int)))] [] else bif !v8 == (0 : Int) then some [T.bool true] else O K13n2 [AV.t (T.lst 1 ev0
 v0), I v1, AV.fn 16 [] [AV.t (T.ptr [T.int IntKind.i64 v2c])], I v13, I (IntKind.i64.wrap (v14 + (1 : Int)))] []) := by kernel_rfl
theorem e28s2 (O : Orc) (ea0 : Bool) (a0 : List (List T)) (a1c : Int) : stepO PROG ann O (Key.call 28) [(AV.t (T.lst 1 ea0 a0)), (AV.fn 48 [] [(AV.t (T.ptr [(T.int IntKind.i64 a1c)]))])] [] =
  (gdK none (O (Key.call 35) [AV.t (T.lst 1 ea0 a0), AV.fn 48 [] [AV.t (T.ptr [T.int IntKind.i64 a1c])]] []) fun l => gdK none l.head? fun x => gdK none (T.int? IntKind.i64 x) fun n => some [T.bool (decide (n ≥ (0 : Int)))]) := by kernel_rfl
theorem e35 (O : Orc) (ea0 : Bool) (a0 : List (List T)) (ea1c : Bool) (a1c : List (List T)) : stepO PROG ann O (Key.call 35) [(AV.t (T.lst 1 ea0 a0)), (AV.fn 29 [] [(AV.t (T.ptr [(T.lst 1 ea1c a1c)]))])] [] =
  (O K35n2 [AV.t (T.lst 1 ea0 a0), AV.fn 29 [] [AV.t (T.ptr [T.lst 1 ea1c a1c])], I (↑a0.length : Int), I (0 : Int)] []) := by kernel_rfl
theorem e14 (O : Orc) (a0 : Int) (a1 : Int) : stepO PROG ann O (Key.call 14) [(I a0), (AV.t (T.ptr [(T.int IntKind.i64 a1)]))] [] =
  (gdK none (if a0 < (0 : Int) then none else some ()) fun x => some [T.bool (IntKind.i64.wrap (↑(BitVec.ofInt 64 (a1.fdiv ((2 : Int) ^ min a0.toNat 64)) &&& BitVec.ofInt 64 (1 : Int)).toNat : Int) == (1 : Int))]) := by kernel_rfl
theorem e16 (O : Orc) (a0 : Int) (a1 : Int) : stepO PROG ann O (Key.call 16) [(I a0), (AV.t (T.ptr [(T.int IntKind.i64 a1)]))] [] =
  (gdK none (if a0 < (0 : Int) then none else some ()) fun x => some [T.bool (IntKind.i64.wrap (↑(BitVec.ofInt 64 (a1.fdiv ((2 : Int) ^ min a0.toNat 64)) &&& BitVec.ofInt 64 (1 : Int)).toNat : Int) == (0 : Int))]) := by kernel_rfl
theorem e35s2 (O : Orc) (ea0 : Bool) (a0 : List (List T)) (a1c : Int) : stepO PROG ann O (Key.call 35) [(AV.t (T.lst 1 ea0 a0)), (AV.fn 48 [] [(AV.t (T.ptr [(T.int IntKind.i64 a1c)]))])] [] =
  (O K35n2 [AV.t (T.lst 1 ea0 a0), AV.fn 48 [] [AV.t (T.ptr [T.int IntKind.i64 a1c])], I (↑a0.length : Int), I (0 : Int)] []) := by kernel_rfl
theorem e35n2 (O : Orc) (ev0 : Bool) (v0 : List (List T)) (ev1c : Bool) (v1c : List (List T)) (v7 : Int) (v8 : Int) : stepO PROG ann O K35n2 [(AV.t (T.lst 1 ev0 v0)), (AV.fn 29 [] [(AV.t (T.ptr [(T.lst 1 ev1c v1c)]))]), (I v7), (I v8)] [] =
  (bif decide (v8 < v7) then gdK none (if (0 : Int) ≤ v8 ∧ v8 < (↑v0.length : Int) then some () else none) fun x => gdK none v0[v8.toNat]? fun l => gdK none l.head? fun x => gdK none (T.int? IntKind.i64 x) fun n => gdK none
 (O (Key.call 29) [I n, AV.t (T.ptr [T.lst 1 ev1c v1c])] []) fun l => gdK none l.head? fun x => gdK none x.bool? fun b => bif b then some [T.int IntKind.i64 v8] else O K35n2 [AV.t (T.lst 1 ev0 v0), AV.fn 29 [] [AV.t (T.ptr
 [T.lst 1 ev1c v1c])], I v7, I (IntKind.i64.wrap (v8 + (1 : Int)))] [] else some [T.int IntKind.i64 (-1 : Int)]) := by kernel_rfl
theorem e35n2s2 (O : Orc) (ev0 : Bool) (v0 : List (List T)) (v1c : Int) (v7 : Int) (v8 : Int) : stepO PROG ann O K35n2 [(AV.t (T.lst 1 ev0 v0)), (AV.fn 48 [] [(AV.t (T.ptr [(T.int IntKind.i64 v1c)]))]), (I v7), (I v8)] [] =
  (bif decide (v8 < v7) then gdK none (if (0 : Int) ≤ v8 ∧ v8 < (↑v0.length : Int) then some () else none) fun x => gdK none v0[v8.toNat]? fun l => gdK none l.head? fun x => gdK none (T.int? IntKind.i64 x) fun n => gdK none
 (O (Key.call 48) [I n, AV.t (T.ptr [T.int IntKind.i64 v1c])] []) fun l => gdK none l.head? fun x => gdK none x.bool? fun b => bif b then some [T.int IntKind.i64 v8] else O K35n2 [AV.t (T.lst 1 ev0 v0), AV.fn 48 [] [AV.t
 (T.ptr [T.int IntKind.i64 v1c])], I v7, I (IntKind.i64.wrap (v8 + (1 : Int)))] [] else some [T.int IntKind.i64 (-1 : Int)]) := by kernel_rfl
theorem e29 (O : Orc) (a0 : Int) (ea1 : Bool) (a1 : List (List T)) : stepO PROG ann O (Key.call 29) [(I a0), (AV.t (T.ptr [(T.lst 1 ea1 a1)]))] [] =
  (gdK none (O (Key.call 30) [I a0, AV.t (T.lst 1 ea1 a1)] []) fun l => gdK none l.head? fun x => gdK none x.bool? fun b => some [T.bool b]) := by kernel_rfl
theorem e48 (O : Orc) (a0 : Int) (a1 : Int) : stepO PROG ann O (Key.call 48) [(I a0), (AV.t (T.ptr [(T.int IntKind.i64 a1)]))] [] =
  (gdK none (O (Key.call 36) [I a0] []) fun l => gdK none l.head? fun x => gdK none (T.int? IntKind.i64 x) fun n => gdK none (O (Key.call 36) [I a1] []) fun l => gdK none l.head? fun x => gdK none (T.int? IntKind.i64 x) fun
 n_1 => some [T.bool (n == n_1)]) := by kernel_rfl
theorem e30 (O : Orc) (a0 : Int) (ea1 : Bool) (a1 : List (List T)) : stepO PROG ann O (Key.call 30) [(I a0), (AV.t (T.lst 1 ea1 a1))] [] =
  (gdK none (O (Key.call 36) [I a0] []) fun l => gdK none l.head? fun x => gdK none (T.int? IntKind.i64 x) fun n => gdK none (if (0 : Int) ≤ IntKind.i64.wrap (n - (1 : Int)) ∧ IntKind.i64.wrap (n - (1 : Int)) < (↑a1.length :
 Int) then some () else none) fun x => gdK none a1[(IntKind.i64.wrap (n - (1 : Int))).toNat]? fun l => gdK none l.head? fun x => gdK none x.bool? fun b => some [T.bool (b == decide (a0 > (0 : Int)))]) := by kernel_rfl
theorem e36 (O : Orc) (a0 : Int) : stepO PROG ann O (Key.call 36) [(I a0)] [] =
  (some [T.int IntKind.i64 (mm true a0 (IntKind.i64.wrap ((0 : Int) - a0)))]) := by kernel_rfl
end Go.Aev.Gen
