/-
  The abstract evaluator: regions, the machine, the limit. No program is named here.
-/
import Derived.Test.YtmpjdngpblfecaaAevRun
set_option linter.unusedSimpArgs false
set_option linter.unusedVariables false
namespace Go.Aev
open Go

section
variable (P : Program) (A : Ann) (O : Orc)

def cmpW (b want : Bool) : Bool := cond want b (!b)
def gC (g : Option Gs) (b want : Bool) : Bool :=
  match g with
  | none => cmpW b want
  | some g0 => cond g0.c (cmpW b want) false

/-- The guard of an operation, as it stands. -/
def guardOf {R : Type} (ops : Array Oper) (o : Oper) (s : St) (K : Option Gs → Option R) : Option R :=
  match o.guard with
  | none => K none
  | some (j, want) => match (ops[j]?).bind (·.dst) with
    | none => none
    | some d => (s.t d).2.t?.bind fun x => gdK ((s.t d).1.map (·.c)) x.bool? fun b =>
        K (some { d := d, want := want, c := gC (s.t d).1 b want })

def isDel : Builtin → Bool
  | .delete => true
  | _ => false
/-- Operations that change memory that was there. -/
def isW (o : Oper) : Bool :=
  match o.op with
  | .store .. => true
  | .mapUpdate .. => true
  | .call cl => match cl.callee with
    | .builtin .append => match cl.args.toList with
      | .const (.slice none 0 0) :: _ => false
      | _ => !A.app o.dst
    | .builtin b => isDel b
    | .value (.func f) => match A.bref f with
      | some _ => true
      | none => match P.funcs[f]? with
        | some _ => A.wr f
        | none => true
    | _ => true
  | _ => false
/-- Calls that hand on no blocks. -/
def flatC (o : Oper) : Bool :=
  match o.op with
  | .call cl => match cl.callee with
    | .value (.func f) => match P.funcs[f]? with
      | some fn => (resSh P A f 0 fn).all flatSh
      | none => false
    | _ => false
  | _ => false
/-- Operations that look at their operands alone. -/
def isPure (o : Oper) : Bool :=
  match o.op with
  | .move _ | .assign _ | .pick .. | .build .. | .unOp .. | .makeFunc .. | .fieldAddr .. | .field .. | .extract .. | .nilCheck _ => true
  | .binOp _ t x y _ => !(nilC P t x || nilC P t y)
  | .call cl => match cl.callee with
    | .builtin .max | .builtin .min => true
    | _ => false
  | _ => false
/-- Calls that read more than the blocks that their operands name. -/
def isD (o : Oper) : Bool :=
  match o.op with
  | .call cl => match cl.callee with
    | .value (.func f) => A.deep f
    | .value _ => true
    | .builtin .append => A.nst o.dst o.type == 3
    | _ => false
  | _ => false
/-- Operations that make no blocks. -/
def quiet (o : Oper) : Bool := isPure P o ||
  match o.op with
  | .load .. | .index .. | .indexAddr .. | .slice .. | .binOp .. | .convert .. | .lookup .. => true
  | .call cl => match cl.callee with
    | .builtin .len => true
    | .value (.func _) => !isW P A o && flatC P A o
    | _ => false
  | _ => false
/-- Operations that make a block and look at none. -/
def isAl (o : Oper) : Bool :=
  match o.op with
  | .alloc _ | .box .. | .makeSlice .. | .makeMap .. => true
  | _ => false
/-- Calls that may hand blocks in. -/
def isR (o : Oper) : Bool :=
  match o.op with
  | .call cl => match cl.callee with
    | .value (.func f) => (A.bref f).isSome
    | .value _ => true
    | _ => false
  | _ => false
def compat (a b : Oper) : Bool := !((isW P A a && !(isPure P b || isAl b)) || (isW P A b && !(isPure P a || isAl a))) && (!isD A a || quiet P A b) && (!isD A b || quiet P A a)

def dsts : List Oper → List Nat
  | [] => []
  | o :: r => match o.dst with
    | some d => d :: dsts r
    | none => dsts r
/-- The slot that an address hangs on. -/
def rootA (ops : Array Oper) (a : Nat) : Nat := match ops.find? (fun o => o.dst == some a) with
  | some o => match o.op with
    | .fieldAddr _ (.tmp b) _ => b
    | _ => a
  | none => a
/-- Where an unguarded store or load goes. -/
def stA (ops : Array Oper) (o : Oper) : Option Nat := match o.guard, o.op with
  | none, .store _ (.tmp a) _ => some (rootA ops a)
  | none, .load _ (.tmp a) => some (rootA ops a)
  | _, _ => none
/-- Two stores to places that are not made in the region. -/
def st2 (ops : Array Oper) (a b : Oper) : Bool := A.st ((ops[0]?).bind (·.dst)) && (match stA ops a, stA ops b with
  | some k, some k' => !(k == k') && !(dsts ops.toList).contains k && !(dsts ops.toList).contains k'
  | _, _ => false)

/-- An append that writes, or a call by value that shuts what is handed in. -/
def apA (o : Oper) : Bool := o.guard.isNone && isW P A o && match o.op with
  | .call cl => match cl.callee with
    | .builtin .append => !(A.nst o.dst o.type == 3)
    | .value (.func f) => (A.bref f).isNone && !A.deep f
    | _ => false
  | _ => false
/-- A load by its root, or a slice that is written out. -/
def rootB (ops : Array Oper) (o : Oper) : Option (Option Nat) := match o.guard, o.op with
  | none, .load _ (.tmp a) => some (some (rootA ops a))
  | none, .buildSlice .. => some none
  | _, _ => none
/-- An append beside a load of what is not made in the region, or beside a slice that is written out. -/
def ld2 (ops : Array Oper) (a b : Oper) : Bool := A.ld ((ops[0]?).bind (·.dst)) && apA P A a && (match rootB ops b with
  | some (some k) => !(dsts ops.toList).contains k
  | some none => true
  | none => false)
/-- An unguarded store of a slice (true), or of an integer. -/
def isSt (o : Oper) (k : Bool) : Bool := match o.guard, o.op with
  | none, .store t (.tmp _) _ => (match P.underlying t with
    | some (.slice _) => k
    | some (.int _) => !k
    | _ => false)
  | _, _ => false
/-- A slice goes into a slice of rows, an integer into a slice: two stores of which nothing is asked but where they went. -/
def st4 (ops : Array Oper) (a b : Oper) : Bool := A.sx ((ops[0]?).bind (·.dst)) && isSt P a true && isSt P b false
def ka : Upd → Bool
  | [(_, .dead), (_, .rows _ _ _ rsz _ _)] => !(rsz == 1)
  | _ => false
def kb : Upd → Bool
  | [(_, .sl false sz _ _)] => sz == 1
  | _ => false
def bare (o : Oper) (s : St) : Bool := match o.op with
  | .store _ _ y => (s.get none y).ids.isEmpty
  | _ => false
/-- The address of an element of one cell, or a load. -/
def isIx (o : Oper) : Bool := match o.guard, o.op with
  | none, .indexAddr t (.tmp _) _ => (match elemT P t with
    | some e => P.cellsOf e == 1
    | none => false)
  | none, .load _ (.tmp _) => true
  | _, _ => false
def ownX (o : Oper) (s : St) : Bool := match o.op with
  | .load _ x => (match s.get none x with
    | .ref _ _ => true
    | _ => false)
  | .indexAddr _ x _ => (match s.get none x with
    | .own _ => true
    | _ => false)
  | _ => false
/-- Such a store beside such an address. -/
def st5 (ops : Array Oper) (a b : Oper) : Bool := A.sx ((ops[0]?).bind (·.dst)) && (isSt P a true || isSt P a false) && isIx P b
def st3 (ops : Array Oper) (a b : Oper) : Bool := st2 A ops a b || ld2 P A ops a b || ld2 P A ops b a || (st4 P A ops a b || st4 P A ops b a) || (st5 P A ops a b || st5 P A ops b a)

/-- Is j behind i, through others? -/
def bnd (ops : Array Oper) : Nat → Nat → Nat → Bool
  | 0, _, _ => false
  | n + 1, j, i => match ops[j]? with
    | none => false
    | some oj => oj.after.any fun e => Region.binds .any e && (e.on == i || (Nat.blt i e.on && bnd ops n e.on i))
def freeC (ops : Array Oper) (listed : Array Bool) (i : Nat) : Bool :=
  match ops[i]? with
  | none => false
  | some oi => (List.range ops.size).all fun j => match ops[j]? with
    | none => true
    | some oj => j == i || listed.getD j true || compat P A oi oj || st3 P A ops oi oj || bnd ops 12 j i
def lexC (ops : Array Oper) : Nat → Nat → Array Bool → Bool
  | 0, _, _ => true
  | n + 1, k, listed => freeC P A ops listed k && lexC ops n (k + 1) (listed.setIfInBounds k true)

def fresh (h : Id → Option Blk) (us : Upd) : Bool := us.all fun p => (h p.1).isNone

/-- New blocks bear names that are not yet taken. -/
def freshAt (d : Nat) (h : Id → Option Blk) (us : Upd) : Bool := us.all fun p => match p.1 with
  | .s d' _ => !(d' == d) || (h p.1).isNone
  | .c _ => true
  | .g _ _ => false

/-- Is this slot asked by a guard of the region? -/
def asksG (ops : Array Oper) (d : Option Nat) : Bool :=
  ops.any fun o => match o.guard with
    | none => false
    | some (j, _) => match (ops[j]?).bind (·.dst), d with
      | some e, some d => e == d
      | _, _ => false

/-- In a region whose order is drawn, an operand names only blocks of operations that bind it. -/
def bound (ops : Array Oper) (o : Oper) (d : Nat) : Bool :=
  (List.range ops.size).all fun i => match ops[i]? with
    | some oi => !(oi.dst == some d) || o.after.any (fun e => Region.binds .any e && (e.on == i || bnd ops 12 e.on i))
    | none => true
def namesOk (ops : Array Oper) (g : Option Gs) (o : Oper) (s : St) : Bool :=
  o.op.operands.toList.all fun x => (s.get g x).ids.all fun i => match i with
    | .s d _ => bound ops o d
    | .c _ => true
    | .g _ _ => false
def newOk (o : Oper) (us : Upd) : Bool := us.all fun p => match p.1 with
  | .s d _ => o.dst == some d
  | .c _ => false
  | .g _ _ => false

/-- What an operation changes was not made by an operation that it is not bound to. -/
def usOk (ops : Array Oper) (o : Oper) (us : Upd) : Bool := us.all fun p => match p.1 with
  | .s d _ => bound ops o d || o.dst == some d
  | .c _ => true
  | .g _ _ => false

/-- A store that stands unbound beside another one: it hands on no blocks, and changes its own place alone. -/
def stP (ops : Array Oper) (o o' : Oper) (s : St) (us : Upd) : Bool := match stA ops o, stA ops o' with
  | some k, some k' => (o.op.operands.toList.all fun x => (s.get none x).ids.all fun i => decide (i ∈ (s.t k).2.ids)) && us.all (fun p => decide (p.1 ∈ (s.t k).2.ids)) && us.all (fun p => decide (p.1 ∉ (s.t k').2.ids))
  | _, _ => false
/-- An append changes nothing that the load looks at. -/
def ldA (ops : Array Oper) (o' : Oper) (s : St) (us : Upd) : Bool := match rootB ops o' with
  | some (some k) => us.all fun p => decide (p.1 ∉ (s.t k).2.ids)
  | _ => true
/-- The load looks at what its root names alone; what is written out names no blocks. -/
def ldB (ops : Array Oper) (o : Oper) (s : St) : Bool := match rootB ops o with
  | some (some k) => o.op.operands.toList.all fun x => (s.get none x).ids.all fun i => decide (i ∈ (s.t k).2.ids)
  | some none => o.op.operands.toList.all fun x => (s.get none x).ids.isEmpty
  | none => true
def stOk (ops : Array Oper) (o : Oper) (s : St) (us : Upd) : Bool := ops.all fun o' => (!(st2 A ops o o') || stP ops o o' s us) && (!(ld2 P A ops o o') || ldA ops o' s us) && (!(ld2 P A ops o' o) || ldB ops o s) && ((!(st4 P A ops o o') || ka us) && (!(st4 P A ops o' o) || (kb us && bare o s))) && ((!(st5 P A ops o o') || ka us || kb us) && (!(st5 P A ops o' o) || ownX o s))

def okOp (draw : Bool) (nt : Nat) (ops : Array Oper) (o : Oper) (g : Option Gs) (s : St) (us : Upd) : Bool :=
  (match o.dst with | some d => decide (d < nt) | none => true) &&
  (match g with | some g => us.isEmpty && !(o.dst == some g.d) | none => true) &&
  freshAt (o.dst.getD 0) s.h us && (!draw || (namesOk ops g o s && (isW P A o || newOk o us) && (!isPure P o || us.isEmpty) && (!quiet P A o || us.isEmpty) && (!isW P A o || usOk ops o us) && Nat.ble nt 1000000 && stOk P A ops o s us))

/-- A guarded call by reference, outside drawn regions: the run splits. -/
def splitG (draw : Bool) (o : Oper) (g : Option Gs) : Option Gs :=
  match g with
  | some g => cond (!draw && isR A o) (some g) none
  | none => none
def dstOk (nt : Nat) (o : Oper) (g : Gs) : Bool := (match o.dst with | some d => decide (d < nt) | none => true) && !(o.dst == some g.d)
/-- What stands for the result of a call that is not made. -/
def noneAV (o : Oper) : AV :=
  match o.op with
  | .call cl => match cl.callee with
    | .value (.func f) => match P.funcs[f]? with
      | some fn => match resSh P A f 0 fn with
        | [.f .b] => .t (.bool false)
        | [.f (.i k)] => .t (.int k 0)
        | _ => .top
      | none => .top
    | _ => match P.underlying o.type with
      | some .bool => .t (.bool false)
      | some (.int k) => .t (.int k 0)
      | _ => .top
  | _ => .top

def oneOp {R : Type} (draw : Bool) (nt : Nat) (ops : Array Oper) (o : Oper) (s : St) (K : St → Option R) : Option R :=
  guardOf ops o s fun g => match splitG A draw o g with
  | some gs => cond (dstOk nt o gs) (cond gs.c
      (aop P A O none o (s.openG gs) fun v us =>
        if okOp P A draw nt ops o none s us then K (s.put (asksG ops o.dst) o.dst (some gs) v us) else none)
      (K (s.put (asksG ops o.dst) o.dst (some gs) (noneAV P A o) []))) none
  | none => aop P A O g o s fun v us =>
    if okOp P A draw nt ops o g s us then K (s.put (asksG ops o.dst) o.dst g v us) else none

def rops {R : Type} (draw : Bool) (nt : Nat) (ops : Array Oper) : List Oper → St → (St → Option R) → Option R
  | [], s, K => K s
  | o :: r, s, K => oneOp P A O draw nt ops o s fun s' => rops draw nt ops r s' K

/-- Behind a region nothing stands under a guard. -/
def St.clear (s : St) : St :=
  { t := fun k => match s.t k with
      | (none, v) => (none, v)
      | (some _, _) => (none, .top)
    h := s.h }

def nodupN : List Nat → Bool
  | [] => true
  | d :: r => !r.contains d && nodupN r
def guardsOk (ops : Array Oper) : Bool := ops.all fun o => match o.guard with
  | none => true
  | some (j, _) => o.after.any fun e => Region.binds .any e && e.on == j
def regOk (draw : Bool) (ops : Array Oper) : Bool :=
  !draw || (Region.lexB .any ops && lexC P A ops ops.size 0 (Array.replicate ops.size false) && nodupN (dsts ops.toList) && guardsOk ops)

def region {R : Type} (nt : Nat) (draw : Bool) (ops : Array Oper) (s : St) (K : St → Option R) : Option R :=
  cond (regOk P A draw ops)
    (rops P A O draw nt ops ops.toList s fun s' => K s'.clear) none

/-! ### The places where a run is cut -/
def normAV (h : Id → Option Blk) : AV → AV
  | .own i => match h i with
    | some (.sl true sz b xs) => .t (.lst sz b xs)
    | _ => .own i
  | .part i sz off n => match h i with
    | some (.sl true sz' b xs) => if sz' = sz then .t (.lst sz b ((xs.drop off).take n)) else .part i sz off n
    | _ => .part i sz off n
  | .ref i off => match h i with
    | some (.fbox l) => .t (.ptr (l.drop off))
    | _ => .ref i off
  | v => v

/-- What a slot hands on; a nil slice may be handed on as a slice of the call's own. -/
def liveAV (s : St) (k : Nat × Option Nat) : Option (AV × Upd) :=
  match s.t k.1 with
  | (some _, _) => none
  | (none, v) => match k.2 with
    | none => some (normAV s.h v, [])
    | some sz => if sz = 0 ∨ sz ≥ 999999 then some (normAV s.h v, []) else match v with
      | .own i => match s.h i with
        | some (.sl false _ _ _) => some (.own i, [])
        | _ => none
      | .t (.emp b) => some (.own (.s (1000000 + k.1) 0), [(.s (1000000 + k.1) 0, .sl false sz b [])])
      | _ => none
def liveAll (s : St) : List (Nat × Option Nat) → Option (List AV × Upd)
  | [] => some ([], [])
  | k :: r => (liveAV s k).bind fun p => (liveAll s r).bind fun q => some (p.1 :: q.1, p.2 ++ q.2)

def toNode1 (f : FuncId) (todo : List Item) (live : List (Nat × Option Nat)) (m : Nat × Nat) (s : St) : Option (List T) :=
  (liveAll s live).bind fun p =>
    if fresh s.h p.2 then
    let h := updH s.h p.2
    (reach h 1000 ((List.range m.1).map Id.c ++ idsL p.1) []).bind fun seen =>
      O (.node f todo live m) (rnL seen p.1) (seen.map fun i => rnB seen (h i))
    else none
/-- The slices that a box's cells hold. -/
def frzBox (h : Id → Option Blk) : AV → Upd
  | .ref i _ => match h i with
    | some (.box cs) => frzAll h cs
    | _ => []
  | _ => []
/-- What is shut at a cut: the slots that are marked by 0; by 999999: the cells of the box that the slot points to. -/
def frzLive (s : St) : List (Nat × Option Nat) → Upd
  | [] => []
  | (k, some 0) :: r => frz1 s.h (s.t k).2 ++ frzLive s r
  | (k, some (n + 1)) :: r => cond (Nat.beq n 999998) (frzBox s.h (s.t k).2) [] ++ frzLive s r
  | (_, none) :: r => frzLive s r
/-- Cells of boxes that are to hold slices of the call's own: the slots that are marked by 1000000 * (cell + 1) + size. -/
def reqLive (s : St) : List (Nat × Option Nat) → List (Id × Nat × Nat)
  | [] => []
  | (k, some n) :: r => match cond (Nat.ble 1000000 n) (s.t k).2 .top with
    | .ref i _ => (i, n / 1000000 - 1, n % 1000000) :: reqLive s r
    | _ => reqLive s r
  | _ :: r => reqLive s r
/-- A box's cells that hold what is shut hold trees. -/
def nrm1 (h : Id → Option Blk) : AV → (Id → Option Blk)
  | .ref i _ => match h i with
    | some (.box cs) => updH h [(i, .box (cs.map (normAV h)))]
    | _ => h
  | _ => h
def nrmLive (t : Nat → Option Gs × AV) : (Id → Option Blk) → List (Nat × Option Nat) → (Id → Option Blk)
  | h, [] => h
  | h, (k, some n) :: r => nrmLive t (cond (Nat.beq n 999999) (nrm1 h (t k).2) h) r
  | h, (_, none) :: r => nrmLive t h r
def toNode (f : FuncId) (todo : List Item) (live : List (Nat × Option Nat)) (m : Nat × Nat) (s : St) : Option (List T) :=
  (prep 1900000 0 (updH s.h (frzLive s live)) (reqLive s live)).bind fun us =>
    toNode1 O f todo live m { t := s.t, h := nrmLive s.t (updH (updH s.h (frzLive s live)) us) live }

def fromNode (live : List (Nat × Option Nat)) (vals : List AV) (blks : List Blk) : St :=
  { t := fun k => (none, look live vals k)
    h := fun
      | .c j => blks[j]?
      | _ => none }
where
  look : List (Nat × Option Nat) → List AV → Nat → AV
  | (k, _) :: ks, v :: vs, j => if j = k then v else look ks vs j
  | _, _, _ => .top

/-- The first region of a loop's body: the loop's name. -/
def rid : Code → Nat
  | .region id _ _ => id
  | .seq a _ => rid a
  | .block _ b => rid b
  | .cond _ a _ => rid a
  | _ => 1000000

/-! ### The end of a call -/
def ownRes (h : Id → Option Blk) (sz : Nat) : AV → Option (T × Id)
  | .own i => match h i with
    | some (.sl false sz' b xs) => if sz' = sz then some (.lst sz b xs, i) else none
    | _ => none
  | _ => none
/-- What is told: the cell, the blocks that the caller owns from now on, the blocks that are only shared. -/
def encR {R : Type} (m : Nat) (h : Id → Option Blk) (r : RSh) (v : AV) (K : T → List Id → List Id → Option R) : Option R :=
  match r with
  | .f _ => v.t?.bind fun x => gdK none x.flat? fun _ => K x [] []
  | .t _ => (snapOne h v).bind fun x => K x [] ((frz1 h v).map (·.1))
  | .own sz => match v with
    | .own i => (ownRes h sz (.own i)).bind fun p => K p.1 [p.2] []
    | .part i sz' 0 n => match h i with
      | some (.sl false sz'' b xs) => if sz'' = sz ∧ sz' = sz then K (.lst sz b (xs.take n)) [i] [] else none
      | _ => none
    | .t (.emp b) => K (.emp b) [] []
    | .t (.lst _ true []) => K (.emp true) [] []
    | _ => none
  | .ref k off => match v with
    | .ref (.c k') off' => if k' = k ∧ off' = off ∧ k < m then K .nilp [] [] else none
    | _ => none
  | .same k => match v with
    | .own (.c k') => if k' = k ∧ k < m then K .nilp [] [] else none
    | _ => none
  | .rows sz col rsz => match v with
    | .own i => match h i with
      | some (.rows b sz' col' rsz' _ es) => if sz' = sz ∧ col' = col ∧ rsz' = rsz then
          gdK none (if allOwn es = true then some () else none) fun _ => K (encRw b es) [i] [] else none
      | _ => none
    | _ => none
  | .mp ag ks vk => match v with
    | .own i => match h i with
      | some (.mp ag' ks' vk' es) => if ag' = ag ∧ ks' = ks ∧ vk' = vk then K (encE es) [i] [] else none
      | _ => none
    | _ => none
  | .no => match v with
    | .ref _ _ => K .nilp [] []
    | _ => none
  | .agg _ => none
  | .new _ => none
def encL1 {R : Type} (m : Nat) (h : Id → Option Blk) : List RSh → List AV → (List T → List Id → List Id → Option R) → Option R
  | [], [], K => K [] [] []
  | r :: rs, v :: vs, K => encR m h r v fun x a b => encL1 m h rs vs fun xs a' b' => K (x :: xs) (a ++ a') (b ++ b')
  | _, _, _ => none
def encL {R : Type} (m : Nat) (h : Id → Option Blk) : List RSh → List AV → (List T → List Id → List Id → Option R) → Option R
  | [], [], K => K [] [] []
  | r :: rs, v :: vs, K => match r with
    | .agg l => match v with
      | .agg cs => encL1 m h l cs fun xs a b => encL m h rs vs fun ys a' b' => K (xs ++ ys) (a ++ a') (b ++ b')
      | _ => none
    | .new l => match v with
      | .ref i 0 => match h i with
        | some (.box cs) => encL1 m h l cs fun xs a b => encL m h rs vs fun ys a' b' => K (xs ++ ys) (i :: (a ++ a')) (b ++ b')
        | _ => none
      | _ => none
    | r => encR m h r v fun x a b => encL m h rs vs fun xs a' b' => K (x :: xs) (a ++ a') (b ++ b')
  | _, _, _ => none
/-- The blocks that were handed in, as they are now. -/
def encOuts {R : Type} (m : Nat) (h : Id → Option Blk) : Nat → List BSh → (List T → List Id → List Id → Option R) → Option R
  | _, [], K => K [] [] []
  | j, .box l :: r, K => match h (.c j) with
    | some (.box cs) => encL1 m h l cs fun xs a b => encOuts m h (j + 1) r fun ys a' b' => K (xs ++ ys) (.c j :: (a ++ a')) (b ++ b')
    | _ => none
  | j, .sl sz :: r, K => match h (.c j) with
    | some (.sl false sz' b xs) => if sz' = sz then encOuts m h (j + 1) r fun ys a' b' => K (.lst sz b xs :: ys) (.c j :: a') b' else none
    | _ => none
  | j, .mp ag ks vk :: r, K => match h (.c j) with
    | some (.mp ag' ks' vk' es) => if ag' = ag ∧ ks' = ks ∧ vk' = vk then encOuts m h (j + 1) r fun ys a' b' => K (encE es :: ys) (.c j :: a') b' else none
    | _ => none
  | j, .dead :: r, K => encOuts m h (j + 1) r K

def resVals {R : Type} (s : St) : List ResultVar → (List AV → Option R) → Option R
  | [], K => K []
  | .tmp k :: r, K => match s.t k with
      | (none, v) => resVals s r fun l => K (v :: l)
      | _ => none
  | .cell k t :: r, K => match s.t k with
      | (none, v) => loadAV P s none t v fun v => resVals s r fun l => K (v :: l)
      | _ => none

def nodupB : List Id → Bool
  | [] => true
  | i :: r => !r.contains i && nodupB r

def finish0 (f : FuncId) (fn : Func) (m : Nat × Nat) (s : St) : Option (List T) :=
  resVals P s fn.results.toList fun vs =>
    if m.1 = (outSh A f m.2).length then
    encL m.1 s.h (resSh P A f m.2 fn) vs fun xs a b => encOuts m.1 s.h 0 (outSh A f m.2) fun ys a' b' =>
      if nodupB (a ++ a') && (b ++ b').all (fun i => !(a ++ a').contains i) then some (xs ++ ys) else none
    else none

/-- What a slice of rows reads as, where no row is elsewhere. -/
def rowT (col rsz : Nat) (e : Row) : List T := e.cs.set col (match e.own with
  | some p => .lst rsz p.1 p.2
  | none => .nilp)
def owns : List AV → List Id
  | [] => []
  | .own i :: r => i :: owns r
  | _ :: r => owns r
/-- The call's own slices among the results. -/
def resIds (h : Id → Option Blk) (t : Nat → Option Gs × AV) : List ResultVar → List Id
  | [] => []
  | .tmp k :: r => (match (t k).2 with
    | .agg vs => owns vs
    | v => owns [v]) ++ resIds h t r
  | .cell k _ :: r => (match (t k).2 with
    | .ref i _ => match h i with
      | some (.box cs) => owns cs
      | _ => []
    | _ => []) ++ resIds h t r
/-- Slices of rows are shut. -/
def shutG {R : Type} : (Id → Option Blk) → List Id → (Upd → Option R) → Option R
  | _, [], K => K []
  | h, i :: r, K => match h i with
    | some (.rows b sz col rsz _ es) => gdK none (if allOwn es = true then some () else none) fun _ =>
        shutG (updH h [(i, .sl true sz b (es.map (rowT col rsz)))]) r fun us => K ((i, .sl true sz b (es.map (rowT col rsz))) :: us)
    | _ => shutG h r K
def finish (f : FuncId) (fn : Func) (m : Nat × Nat) (s : St) : Option (List T) :=
  cond ((resSh P A f m.2 fn).any isRowsSh) (finish0 P A f fn m s)
    (shutG s.h (resIds s.h s.t fn.results.toList) fun us => finish0 P A f fn m { t := s.t, h := updH s.h us })

/-! ### The machine -/
/-- From a list of what is to be done on; 'cut': whether the next place may be a cut. -/
def ev (f : FuncId) (fn : Func) (m : Nat × Nat) : Nat → Bool → List Item → St → Option (List T)
  | 0, _, _, _ => none
  | n + 1, cut, todo, s => match todo with
    | [] => finish P A f fn m s
    | .code c :: k => match c with
      | .skip => ev f fn m n true k s
      | .seq a b => ev f fn m n cut (.code a :: .code b :: k) s
      | .region id ops draw => match cond cut (A.join f id) none with
        | some live => toNode O f (.code (.region id ops draw) :: k) live m s
        | none => region P A O fn.ntmps draw ops s fun s' => ev f fn m n true k s'
      | .cond x a b => (s.get none x).t?.bind fun y => gdK none y.bool? fun t => cond t (ev f fn m n true (.code a :: k) s) (ev f fn m n true (.code b :: k) s)
      | .block id b => ev f fn m n cut (.code b :: .inBlock id :: k) s
      | .loop b => match A.live f (rid b) with
        | some live => toNode O f (.inLoop b :: k) live m s
        | none => none
      | .exit id => match exitTo id k with
        | some k' => ev f fn m n true k' s
        | none => none
      | .ret => finish P A f fn m s
      | _ => none
    | .inBlock _ :: k => ev f fn m n true k s
    | .inLoop b :: k => match A.live f (rid b) with
        | some live => toNode O f (.inLoop b :: k) live m s
        | none => none
    | _ :: _ => none

def fuel : Nat := 100000

def fromCall (vals : List AV) (blks : List Blk) : St :=
  { t := fun k => (none, vals.getD k .top)
    h := fun
      | .c j => blks[j]?
      | _ => none }

def stepO : Orc
  | .call f, vals, blks => match A.ext f vals blks with
    | some r => some r
    | none => match P.funcs[f]? with
    | some fn => match fn.body with
      | some c => if vals.length ≤ fn.ntmps then ev P A O f fn (blks.length, disc blks.head?) fuel true [.code c] (fromCall vals blks) else none
      | none => none
    | none => none
  | .node f todo live m, vals, blks => match P.funcs[f]? with
    | some fn => match todo with
      | .inLoop b :: k => ev P A O f fn m fuel true (.code b :: .inLoop b :: k) (fromNode live vals blks)
      | todo => ev P A O f fn m fuel false todo (fromNode live vals blks)
    | none => none

end

/-- The place of a loop, or of a region, in a body: what is to be done on from there. -/
def findTodo (loop : Bool) (r : Nat) : Code → List Item → Option (List Item)
  | .seq a b, k => match findTodo loop r a (.code b :: k) with
    | some t => some t
    | none => findTodo loop r b k
  | .block id b, k => findTodo loop r b (.inBlock id :: k)
  | .loop b, k => if loop && rid b == r then some (.inLoop b :: k) else findTodo loop r b (.inLoop b :: k)
  | .cond _ a b, k => match findTodo loop r a k with
    | some t => some t
    | none => findTodo loop r b k
  | .region id ops draw, k => if !loop && id == r then some (.code (.region id ops draw) :: k) else none
  | _, _ => none
def nodeKey (P : Program) (f : FuncId) (loop : Bool) (r : Nat) (live : List (Nat × Option Nat)) (m : Nat × Nat) : Key :=
  .node f (match P.funcs[f]? with
    | some fn => match fn.body with
      | some c => (findTodo loop r c []).getD []
      | none => []
    | none => []) live m

/-- The limit: what some depth tells. -/
def orcN (P : Program) (A : Ann) : Nat → Orc
  | 0 => fun _ _ _ => none
  | n + 1 => stepO P A (orcN P A n)

open Classical in
noncomputable def orc (P : Program) (A : Ann) : Orc := fun k vs bs =>
  if h : ∃ n r, orcN P A n k vs bs = some r then some (Classical.choose (Classical.choose_spec h)) else none

end Go.Aev
