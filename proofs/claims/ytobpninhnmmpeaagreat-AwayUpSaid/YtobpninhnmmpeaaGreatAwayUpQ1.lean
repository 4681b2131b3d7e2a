import Derived.WalkKit
set_option linter.unusedSimpArgs false
set_option linter.unusedVariables false
namespace Go.Aev
open Go

/-- Immutable data of one cell. -/
inductive T where
  | int (k : IntKind) (n : Int)
  | bool (b : Bool)
  | str (s : ByteArray)
  | lst (sz : Nat) (isNil : Bool) (xs : List (List T))
  | emp (isNil : Bool)
  | ptr (cs : List T)
  | nilp
  | nilm
  | nilf
  | nili
  deriving Inhabited

inductive Id where
  | c (n : Nat)
  | s (d : Nat) (j : Nat)
  deriving DecidableEq, Inhabited

/-- What a slot or a cell of the call's own holds. -/
inductive AV where
  | top
  | t (x : T)
  | tup (vs : List AV)
  | agg (vs : List AV)
  | ref (i : Id) (off : Nat)
  | el (i : Id) (sz k off : Nat)
  | own (i : Id)
  | part (i : Id) (sz off len : Nat)
  | fn (f : FuncId) (fst caps : List AV)
  deriving Inhabited

inductive Blk where
  | box (cs : List AV)
  | sl (fz : Bool) (sz : Nat) (isNil : Bool) (xs : List (List T))
  | fbox (cs : List T)
  | dead
  deriving Inhabited

def T.int? (k : IntKind) : T → Option Int
  | .int k' n => if k' = k then some n else none
  | _ => none
def T.bool? : T → Option Bool
  | .bool b => some b
  | _ => none
def T.str? : T → Option ByteArray
  | .str s => some s
  | _ => none
def T.ptr? : T → Option (List T)
  | .ptr cs => some cs
  | _ => none
def T.lst? (sz : Nat) : T → Option (Bool × List (List T))
  | .lst sz' b xs => if sz' = sz then some (b, xs) else none
  | .emp b => some (b, [])
  | _ => none

/-- Numbers, bools and strings. -/
def T.flat? : T → Option Unit
  | .int _ _ => some ()
  | .bool _ => some ()
  | .str _ => some ()
  | _ => none

/-- A step that may fail where the guard does not hold. -/
def gd {α : Type} [Inhabited α] (c : Option Bool) (m : Option α) : Option α :=
  match m with
  | some a => some a
  | none => match c with
    | none => none
    | some b => cond b none (some default)

/-- The same, with what follows. -/
def gdK {α R : Type} [Inhabited α] (c : Option Bool) (m : Option α) (k : α → Option R) : Option R :=
  match m with
  | some a => k a
  | none => match c with
    | none => none
    | some b => cond b none (k default)

/-- The first n cells, one by one. -/
def takeK {R : Type} (c : Option Bool) : Nat → List T → (List T → Option R) → Option R
  | 0, _, K => K []
  | n + 1, cs, K => gdK c cs.head? fun x => takeK c n cs.tail fun l => K (x :: l)

def ofVal : Value → Option T
  | .int k i => some (.int k i)
  | .bool b => some (.bool b)
  | .string s => some (.str s)
  | .slice none 0 0 => some (.emp true)
  | .pointer none => some .nilp
  | .map none => some .nilm
  | .nilFunc => some .nilf
  | .nilIface => some .nili
  | _ => none
def ofVals : List Value → Option (List T)
  | [] => some []
  | v :: r => (ofVal v).bind fun x => (ofVals r).bind fun l => some (x :: l)

def isAggT (P : Program) (t : TypeId) : Bool :=
  match P.underlying t with
  | some (.struct _) | some (.array _ _) => true
  | _ => false
def intK (P : Program) (t : TypeId) : Option IntKind :=
  match P.underlying t with
  | some (.int k) => some k
  | _ => none
def tyOk (P : Program) (t : TypeId) : Bool := (P.underlying t).isSome
def fieldT (P : Program) (t : TypeId) (f : Nat) : Option (Nat × TypeId) :=
  match P.underlying t with
  | some (.struct fs) => match fs[f]? with
    | some x => cond (tyOk P x.type) (some (x.offset, x.type)) none
    | none => none
  | _ => none
def elemT (P : Program) (t : TypeId) : Option TypeId :=
  match P.underlying t with
  | some (.slice e) => cond (tyOk P e) (some e) none
  | _ => none
def arrT (P : Program) (t : TypeId) : Option (Nat × TypeId) :=
  match P.underlying t with
  | some (.array n e) => cond (tyOk P e) (some (n, e)) none
  | _ => none
/-- All parts of a struct or an array have sizes. -/
def partsOk (P : Program) (t : TypeId) : Bool :=
  match P.underlying t with
  | some (.struct fs) => fs.toList.all fun f => tyOk P f.type
  | some (.array _ e) => tyOk P e
  | _ => false
def isStrT (P : Program) (t : TypeId) : Bool :=
  match P.underlying t with
  | some .string => true
  | _ => false
/-- The cells of a type's zero. -/
def zeroC (P : Program) (t : TypeId) : Option (List T) :=
  match P.info? t with
  | some i => match i.zero with
    | some v => ofVals v.cells.toList
    | none => none
  | none => none

structure Gs where
  d : Nat
  want : Bool
  c : Bool

structure St where
  t : Nat → Option Gs × AV
  h : Id → Option Blk

abbrev Upd := List (Id × Blk)

def updH (h : Id → Option Blk) : Upd → Id → Option Blk
  | [] => h
  | (i, b) :: us => updH (fun j => if j = i then some b else h j) us

/-- What stood under a guard whose slot is written anew stands no more. -/
def dropG (d : Nat) : Option Gs × AV → Option Gs × AV
  | (some g, v) => cond (g.d == d) (none, .top) (some g, v)
  | (none, v) => (none, v)
def St.put (s : St) (inv : Bool) (d : Option Nat) (g : Option Gs) (v : AV) (us : Upd) : St :=
  { t := match d with
      | some d => fun k => if k = d then (g, v) else cond inv (dropG d (s.t k)) (s.t k)
      | none => s.t
    h := updH s.h us }

def constAV (v : Value) : AV :=
  match v with
  | .agg cs => match ofVals cs.toList with
    | some l => .agg (l.map .t)
    | none => .top
  | v => match ofVal v with
    | some x => .t x
    | none => .top

def sameG : Option Gs → Option Gs → Bool
  | none, _ => true
  | some a, some b => a.d == b.d && a.want == b.want
  | some _, none => false

/-- Where the guard g holds, what stands under it stands. -/
def St.openG (s : St) (g : Gs) : St := { s with t := fun k => cond (sameG (s.t k).1 (some g)) (none, (s.t k).2) (s.t k) }

/-- An operand, read by an operation under the guard g. -/
def St.get (s : St) (g : Option Gs) : Operand → AV
  | .tmp k => match s.t k with
    | (gk, v) => cond (sameG gk g) v .top
  | .const v => constAV v
  | .func f => .fn f [] []
  | .global _ => .top
/-- An arm of a pick: a value that stands under the very guard that the pick asks serves, too. -/
def St.getArm (s : St) (g : Option Gs) (cs : Operand) (want : Bool) (o : Operand) : AV :=
  match cs, o with
  | .tmp d, .tmp k => match s.t k with
    | (some gk, v) => cond ((gk.d == d && gk.want == want) || sameG (some gk) g) v .top
    | (none, v) => v
  | _, o => s.get g o

def AV.t? : AV → Option T
  | .t x => some x
  | _ => none
def allT : List AV → Option (List T)
  | [] => some []
  | .t x :: r => (allT r).bind fun l => some (x :: l)
  | _ :: _ => none
/-- The value as a tree, as it stands: for what only reads. -/
def snapOne (h : Id → Option Blk) : AV → Option T
  | .t x => some x
  | .own i => match h i with
    | some (.sl _ sz b xs) => some (.lst sz b xs)
    | _ => none
  | .part i sz off len => match h i with
    | some (.sl _ sz' b xs) => if sz' = sz then some (.lst sz b ((xs.drop off).take len)) else none
    | _ => none
  | .ref i off => match h i with
    | some (.box cs) => (allT cs).bind fun l => some (.ptr (l.drop off))
    | some (.fbox l) => some (.ptr (l.drop off))
    | _ => none
  | _ => none
def snapAll (h : Id → Option Blk) : List AV → Option (List T)
  | [] => some []
  | v :: r => (snapOne h v).bind fun x => (snapAll h r).bind fun l => some (x :: l)
/-- The cells of a value, as they stand. -/
def snap (h : Id → Option Blk) : AV → Option (List T)
  | .agg vs => snapAll h vs
  | v => (snapOne h v).bind fun x => some [x]
/-- What is shut when a value is handed on for good. -/
def frz1 (h : Id → Option Blk) : AV → Upd
  | .own i => match h i with
    | some (.sl false sz b xs) => [(i, .sl true sz b xs)]
    | _ => []
  | .part i _ _ _ => match h i with
    | some (.sl false sz b xs) => [(i, .sl true sz b xs)]
    | _ => []
  | .ref i _ => match h i with
    | some (.box cs) => match allT cs with
      | some l => [(i, .fbox l)]
      | none => []
    | _ => []
  | _ => []
def frzAll (h : Id → Option Blk) : List AV → Upd
  | [] => []
  | v :: r => frz1 h v ++ frzAll h r
def frz (h : Id → Option Blk) : AV → Upd
  | .agg vs => frzAll h vs
  | v => frz1 h v

def arithT {R : Type} (op : BinOp) (k : IntKind) (c : Option Bool) (x y : T) (K : T → Option R) : Option R :=
  gdK c (x.int? k) fun a => gdK c (y.int? k) fun b =>
    match op with
    | .add => K (.int k (k.wrap (a + b)))
    | .sub => K (.int k (k.wrap (a - b)))
    | .mul => K (.int k (k.wrap (a * b)))
    | .quo => gdK c (if b = 0 then none else some ()) fun _ => K (.int k (k.wrap (a.tdiv b)))
    | .rem => gdK c (if b = 0 then none else some ()) fun _ => K (.int k (a.tmod b))
    | .and => K (.int k (k.wrap (BitVec.ofInt k.bits a &&& BitVec.ofInt k.bits b).toNat))
    | .or => K (.int k (k.wrap (BitVec.ofInt k.bits a ||| BitVec.ofInt k.bits b).toNat))
    | .xor => K (.int k (k.wrap (BitVec.ofInt k.bits a ^^^ BitVec.ofInt k.bits b).toNat))
    | .andNot => K (.int k (k.wrap (BitVec.ofInt k.bits a &&& ~~~(BitVec.ofInt k.bits b)).toNat))
    | .lss => K (.bool (decide (a < b)))
    | .leq => K (.bool (decide (a ≤ b)))
    | .gtr => K (.bool (decide (a > b)))
    | .geq => K (.bool (decide (a ≥ b)))
    | _ => none

def shiftT {R : Type} (op : BinOp) (k ky : IntKind) (c : Option Bool) (x y : T) (K : T → Option R) : Option R :=
  gdK c (x.int? k) fun a => gdK c (y.int? ky) fun b =>
    gdK c (if b < 0 then none else some ()) fun _ =>
    match op with
    | .shl => K (.int k (k.wrap (a * 2 ^ (min b.toNat k.bits))))
    | .shr => K (.int k (a.fdiv (2 ^ (min b.toNat k.bits))))
    | _ => none

def strT {R : Type} (op : BinOp) (c : Option Bool) (x y : T) (K : T → Option R) : Option R :=
  gdK c x.str? fun a => gdK c y.str? fun b =>
    match op with
    | .add => gdK c (if a.size + b.size ≤ 4294967296 then some () else none) fun _ => K (.str (a ++ b))
    | .lss => K (.bool (Op.bytesLess a.toList b.toList))
    | .leq => K (.bool (Op.bytesLess a.toList b.toList || a.toList == b.toList))
    | .gtr => K (.bool (!(Op.bytesLess a.toList b.toList || a.toList == b.toList)))
    | .geq => K (.bool (!(Op.bytesLess a.toList b.toList)))
    | _ => none

/-- The types of a value's cells, where values are told apart cell by cell: numbers, bools, strings, and structs and arrays of these. -/
def fsTs (P : Program) (go : TypeId → Option (List TypeId)) : List Field → Nat → Option (List TypeId)
  | [], _ => some []
  | f :: r, off => if f.offset = off ∧ f.name ≠ "_" then
      (go f.type).bind fun l => if P.cellsOf f.type = l.length ∧ 0 < l.length then (fsTs P go r (off + l.length)).bind fun q => some (l ++ q) else none
    else none
def flatTs (P : Program) : Nat → TypeId → Option (List TypeId)
  | 0, _ => none
  | n + 1, t => match P.underlying t with
    | some (.int _) | some .bool | some .string => some [t]
    | some (.struct fs) => if P.stoodInHeld t then none else fsTs P (flatTs P n) fs.toList 0
    | some (.array m e) => (flatTs P n e).bind fun l => if P.cellsOf e = l.length then some (List.replicate m l).flatten else none
    | _ => none

/-- Is the value nil? Known for what lies open. -/
def isNilAV (P : Program) (s : St) (t : TypeId) (x : AV) : Option Bool :=
  match P.underlying t with
  | some (.slice _) => match x with
    | .t (.lst _ b _) => some b
    | .t (.emp b) => some b
    | .own i => match s.h i with
      | some (.sl _ _ b _) => some b
      | _ => none
    | _ => none
  | some (.pointer _) => match x with
    | .t (.ptr _) => some false
    | .t .nilp => some true
    | .ref _ _ => some false
    | .el _ _ _ _ => some false
    | _ => none
  | some (.func ..) => match x with
    | .t .nilf => some true
    | .fn _ _ _ => some false
    | _ => none
  | some (.map ..) => match x with
    | .t .nilm => some true
    | _ => none
  | _ => none
def nilC (P : Program) (t : TypeId) (o : Operand) : Bool :=
  match P.underlying t, o with
  | some (.slice _), .const (.slice none 0 0) => true
  | some (.pointer _), .const (.pointer none) => true
  | some (.func ..), .const .nilFunc => true
  | some (.map ..), .const (.map none) => true
  | _, _ => false

/-- Two cells. -/
def eqC {R : Type} (P : Program) (c : Option Bool) (t : TypeId) (x y : T) (K : Bool → Option R) : Option R :=
  match P.underlying t with
  | some (.int k) => gdK c (x.int? k) fun a => gdK c (y.int? k) fun b => K (a == b)
  | some .bool => gdK c x.bool? fun a => gdK c y.bool? fun b => K (a == b)
  | some .string => gdK c x.str? fun a => gdK c y.str? fun b => K (a == b)
  | _ => none
def eqCs {R : Type} (P : Program) (c : Option Bool) : List TypeId → List T → List T → (Bool → Option R) → Option R
  | [], [], [], K => K true
  | t :: ts, x :: xs, y :: ys, K => eqC P c t x y fun b => eqCs P c ts xs ys fun r => K (b && r)
  | _, _, _, _ => none

def binT {R : Type} (P : Program) (op : BinOp) (t ty : TypeId) (c : Option Bool) (x y : T) (K : T → Option R) : Option R :=
  match op with
  | .shl | .shr => match intK P t, intK P ty with
    | some k, some ky => shiftT op k ky c x y K
    | _, _ => none
  | .eql | .neq => none
  | op => match P.underlying t with
    | some (.int k) => arithT op k c x y K
    | some .string => strT op c x y K
    | _ => none
/-- '==' on two values. -/
def eqAV {R : Type} (P : Program) (c : Option Bool) (t : TypeId) (x y : AV) (K : Bool → Option R) : Option R :=
  match x, y with
  | .t x, .t y => cond (isStrT P t) (gdK c x.str? fun a => gdK c y.str? fun b => K (a.toList == b.toList)) (eqC P c t x y K)
  | .agg xs, .agg ys => cond (P.eqGuardType P.depth t || !isAggT P t) none <| (allT xs).bind fun xs => (allT ys).bind fun ys => (flatTs P 8 t).bind fun ts => eqCs P c ts xs ys K
  | _, _ => none

def unT0 {R : Type} (P : Program) (op : UnOp) (t : TypeId) (c : Option Bool) (x : T) (K : T → Option R) : Option R :=
  match op, P.underlying t with
  | .neg, some (.int k) => gdK c (x.int? k) fun a => K (.int k (k.wrap (0 - a)))
  | .xor, some (.int k) => gdK c (x.int? k) fun a =>
      K (.int k (k.wrap (BitVec.ofInt k.bits (if k.signed then -1 else k.max) ^^^ BitVec.ofInt k.bits a).toNat))
  | .not, some .bool => gdK c x.bool? fun a => K (.bool (!a))
  | _, _ => none

open Go

/-- What kind of thing lies in a cell. -/
inductive Ck where
  | i (k : IntKind)
  | b
  | s
  | l (sz : Nat)
  | x
  deriving Inhabited
def typK {R : Type} (k : Ck) (c : Option Bool) (x : T) (K : T → Option R) : Option R :=
  match k with
  | .i k => gdK c (x.int? k) fun n => K (.int k n)
  | .b => gdK c x.bool? fun b => K (.bool b)
  | .s => gdK c x.str? fun s => K (.str s)
  | .l sz => gdK c (x.lst? sz) fun p => K (.lst sz p.1 p.2)
  | .x => K x
def typKs {R : Type} (c : Option Bool) : List Ck → List T → (List T → Option R) → Option R
  | [], xs, K => K xs
  | _ :: _, [], K => K []
  | k :: ks, x :: xs, K => typK k c x fun y => typKs c ks xs fun ys => K (y :: ys)
def cellK (P : Program) (t : TypeId) : Ck :=
  match P.underlying t with
  | some (.int k) => .i k
  | some .bool => .b
  | some .string => .s
  | some (.slice e) => .l (P.cellsOf e)
  | _ => .x
def cellKs (P : Program) : Nat → TypeId → List Ck
  | 0, _ => []
  | n + 1, t => match P.underlying t with
    | some (.struct fs) => fs.toList.flatMap fun f => cellKs P n f.type
    | some (.array m e) => (List.replicate m (cellKs P n e)).flatten
    | _ => [cellK P t]
def aggK (P : Program) (t : TypeId) : List Ck :=
  if (cellKs P 8 t).length = P.cellsOf t then cellKs P 8 t else List.replicate (P.cellsOf t) .x

/-- How a result, or a cell of what is handed in to be changed, is told. -/
inductive RSh where
  | f (k : Ck)
  | t (k : Ck)
  | own (sz : Nat)
  | ref (k off : Nat)
  /-- An address that nobody asks for. -/
  | no
  | agg (l : List RSh)
  deriving Inhabited
inductive BSh where
  | box (l : List RSh)
  | sl (sz : Nat)
  | dead
  deriving Inhabited
structure Sig where
  res : List RSh
  outs : List BSh
  deriving Inhabited
structure Ann where
  live : FuncId → Nat → Option (List (Nat × Option Nat))
  join : FuncId → Nat → Option (List (Nat × Option Nat))
  sig : FuncId → Option Sig
  bref : FuncId → Option (List Bool) := fun _ => none
  deep : FuncId → Bool := fun _ => false
  bsig : FuncId → Nat → Sig := fun _ _ => ⟨[], []⟩
  /-- Results of appends that never write to what was there (and the empty slices that they append to). -/
  app : Option Nat → Bool := fun _ => false
  /-- Functions that are called by value and may shut what is handed to them, in regions whose order is drawn. -/
  wr : FuncId → Bool := fun _ => false
  /-- May two stores stand unbound in a region whose order is drawn (named by what its first operation makes)? -/
  st : Option Nat → Bool := fun _ => false

/-- m: how many blocks were handed in, and how many cells the first of them has. -/
inductive Key where
  | call (f : FuncId)
  | node (f : FuncId) (todo : List Item) (live : List (Nat × Option Nat)) (m : Nat × Nat)

abbrev Orc := Key → List AV → List Blk → Option (List T)

def lim : Nat := 4294967296

mutual
def AV.ids : AV → List Id
  | .top => []
  | .t _ => []
  | .tup vs => idsL vs
  | .agg vs => idsL vs
  | .ref i _ => [i]
  | .el i _ _ _ => [i]
  | .own i => [i]
  | .part i _ _ _ => [i]
  | .fn _ a b => idsL a ++ idsL b
def idsL : List AV → List Id
  | [] => []
  | v :: r => v.ids ++ idsL r
end
mutual
def AV.rn (m : List Id) : AV → AV
  | .top => .top
  | .t x => .t x
  | .tup vs => .tup (rnL m vs)
  | .agg vs => .agg (rnL m vs)
  | .ref i o => .ref (.c (m.idxOf i)) o
  | .el i sz k o => .el (.c (m.idxOf i)) sz k o
  | .own i => .own (.c (m.idxOf i))
  | .part i sz o n => .part (.c (m.idxOf i)) sz o n
  | .fn f a b => .fn f (rnL m a) (rnL m b)
def rnL (m : List Id) : List AV → List AV
  | [] => []
  | v :: r => v.rn m :: rnL m r
end
def rnB (m : List Id) : Option Blk → Blk
  | some (.box cs) => .box (rnL m cs)
  | some b => b
  | none => .dead

/-- All blocks that are reached, in the order in which they are met. -/
def reach (h : Id → Option Blk) : Nat → List Id → List Id → Option (List Id)
  | 0, _, _ => none
  | _ + 1, [], seen => some seen
  | n + 1, i :: todo, seen =>
    cond (seen.contains i) (reach h n todo seen)
      (match h i with
       | some (.box cs) => reach h n (todo ++ idsL cs) (seen ++ [i])
       | some _ => reach h n todo (seen ++ [i])
       | none => none)

def takeAV : Nat → List AV → Option (List AV)
  | 0, _ => some []
  | _ + 1, [] => none
  | n + 1, c :: r => (takeAV n r).bind fun l => some (c :: l)

def repl {α : Type} (off : Nat) (new old : List α) : List α := old.take off ++ new ++ old.drop (off + new.length)

/-- A value that lies in cells. -/
def loadT {R : Type} (P : Program) (t : TypeId) (c : Option Bool) (cs : List T) (K : AV → Option R) : Option R :=
  cond (isAggT P t) (takeK c (P.cellsOf t) cs fun l => typKs c (aggK P t) l fun l => K (.agg (l.map .t))) (gdK c cs.head? fun x => typK (cellK P t) c x fun x => K (.t x))
def loadV {R : Type} (P : Program) (t : TypeId) (cs : List AV) (K : AV → Option R) : Option R :=
  cond (isAggT P t) ((takeAV (P.cellsOf t) cs).bind fun l => K (.agg l)) (cs.head?.bind K)

def loadAV {R : Type} (P : Program) (s : St) (c : Option Bool) (t : TypeId) (a : AV) (K : AV → Option R) : Option R :=
  cond (tyOk P t) (match a with
  | .ref i off => match s.h i with
    | some (.box cs) => loadV P t (cs.drop off) K
    | some (.fbox l) => loadT P t c (l.drop off) K
    | _ => none
  | .el i sz k off => match s.h i with
    | some (.sl _ sz' _ xs) => if sz' = sz then gdK c xs[k]? fun cs => loadT P t c (cs.drop off) K else none
    | _ => none
  | .t x => gdK c x.ptr? fun cs => loadT P t c cs K
  | _ => none) none

/-- The cells of a value that is stored, boxed or built in. -/
def cellsAV (v : AV) : List AV :=
  match v with
  | .agg vs => vs
  | v => [v]
def cellAV : AV → Bool
  | .agg _ | .tup _ | .top => false
  | _ => true

/-- The elements, a part of one of them written over. -/
def storeIn (k off : Nat) (l : List T) (xs : List (List T)) : Option (List (List T)) :=
  match xs[k]? with
  | some cs => if off + l.length ≤ cs.length then some (xs.set k (repl off l cs)) else none
  | none => none

def storeAV {R : Type} (P : Program) (s : St) (t : TypeId) (a v : AV) (K : Upd → Option R) : Option R :=
  cond (tyOk P t) (match a with
  | .ref i off => match s.h i with
    | some (.box cs) =>
      if (cellsAV v).length = P.cellsOf t ∧ (cellsAV v).all cellAV ∧ off + (cellsAV v).length ≤ cs.length then K [(i, .box (repl off (cellsAV v) cs))] else none
    | _ => none
  | .el i sz k off => match s.h i with
    | some (.sl false sz' b xs) => (snap s.h v).bind fun l =>
        if sz' = sz ∧ l.length = P.cellsOf t ∧ v.ids.contains i = false then
          gdK none (storeIn k off l xs) fun ys => K ((i, .sl false sz b ys) :: frz s.h v) else none
    | _ => none
  | _ => none) none

/-- The parts of a struct that is built, laid over its zero. -/
def layAV : List (Nat × List AV) → List AV → Option (List AV)
  | [], z => some z
  | (off, l) :: r, z => if off + l.length ≤ z.length then layAV r (repl off l z) else none

def partOf (P : Program) (t : TypeId) (f : Nat) : Option (Nat × TypeId) :=
  match fieldT P t f with
  | some p => some p
  | none => match arrT P t with
    | some (_, u) => some (f * P.cellsOf u, u)
    | none => none
def partsAV (P : Program) (t : TypeId) (ev : Operand → AV) : List (Nat × Operand) → Option (List (Nat × List AV))
  | [] => some []
  | (f, o) :: r => (partOf P t f).bind fun p =>
      if (cellsAV (ev o)).length = P.cellsOf p.2 ∧ (cellsAV (ev o)).all cellAV then (partsAV P t ev r).bind fun q => some ((p.1, cellsAV (ev o)) :: q) else none

def buildAV (P : Program) (t : TypeId) (ev : Operand → AV) (ps : List (Nat × Operand)) : Option AV :=
  if partsOk P t then
  (zeroC P t).bind fun z => (partsAV P t ev ps).bind fun l => (layAV l (z.map .t)).bind fun cs => some (.agg cs)
  else none

/-- The elements of a slice that is written out: every place is given. -/
def elemsAV (P : Program) (h : Id → Option Blk) (e : TypeId) (ev : Operand → AV) : Nat → List (Nat × Operand) → Option (List (List T) × Upd)
  | _, [] => some ([], [])
  | n, (k, o) :: r => (snap h (ev o)).bind fun l => if k = n ∧ l.length = P.cellsOf e then
        (elemsAV P h e ev (n + 1) r).bind fun q => some (l :: q.1, frz h (ev o) ++ q.2)
    else none

def idxOk {R : Type} (c : Option Bool) (i : Int) (n : Nat) (K : Option R) : Option R := gdK c (if 0 ≤ i ∧ i < n then some () else none) fun _ => K

def indexAddrAV {R : Type} (P : Program) (s : St) (c : Option Bool) (t : TypeId) (x : AV) (i : Int) (K : AV → Option R) : Option R :=
  match elemT P t with
  | some e => match x with
    | .own j => match s.h j with
      | some (.sl _ sz _ xs) => if sz = P.cellsOf e then idxOk c i xs.length (K (.el j sz i.toNat 0)) else none
      | _ => none
    | .part j sz off n => match s.h j with
      | some (.sl _ sz' _ _) => if sz = P.cellsOf e ∧ sz' = sz then idxOk c i n (K (.el j sz (off + i.toNat) 0)) else none
      | _ => none
    | .t y => gdK c (y.lst? (P.cellsOf e)) fun p => idxOk c i p.2.length (gdK c p.2[i.toNat]? fun cs => K (.t (.ptr cs)))
    | _ => none
  | none => match arrT P t with
    | some (n, e) => idxOk c i n (match x with
      | .ref j off => K (.ref j (off + i.toNat * P.cellsOf e))
      | .el j sz k off => K (.el j sz k (off + i.toNat * P.cellsOf e))
      | .t y => gdK c y.ptr? fun cs => K (.t (.ptr (cs.drop (i.toNat * P.cellsOf e))))
      | _ => none)
    | none => none

def fieldAddrAV {R : Type} (P : Program) (c : Option Bool) (t : TypeId) (x : AV) (f : Nat) (K : AV → Option R) : Option R :=
  match fieldT P t f with
  | some (off, u) => if P.cellsOf u = 0 then none else
    match x with
    | .ref j o => K (.ref j (o + off))
    | .el j sz k o => K (.el j sz k (o + off))
    | .t y => gdK c y.ptr? fun cs => K (.t (.ptr (cs.drop off)))
    | _ => none
  | none => none

def fieldAV {R : Type} (P : Program) (t : TypeId) (x : AV) (f : Nat) (K : AV → Option R) : Option R :=
  match fieldT P t f with
  | some (off, u) => match x with
    | .agg vs => loadV P u (vs.drop off) K
    | _ => none
  | none => none

def lenAV {R : Type} (P : Program) (s : St) (c : Option Bool) (t : TypeId) (x : AV) (K : AV → Option R) : Option R :=
  match P.underlying t with
  | some .string => match x with
    | .t y => gdK c y.str? fun b => K (.t (.int .i64 b.size))
    | _ => none
  | some (.array n _) => K (.t (.int .i64 n))
  | some (.slice e) => match x with
    | .own j => match s.h j with
      | some (.sl _ _ _ xs) => K (.t (.int .i64 xs.length))
      | _ => none
    | .part _ _ _ n => K (.t (.int .i64 n))
    | .t y => gdK c (y.lst? (P.cellsOf e)) fun p => K (.t (.int .i64 p.2.length))
    | _ => none
  | _ => none

/-- A bound of a slice expression, if there is one; in its place stands what is given. -/
def boundAV {R : Type} (s : St) (c : Option Bool) (g : Option Gs) (o : Option Operand) (K : Option Int → Option R) : Option R :=
  match o with
  | none => K none
  | some o => (s.get g o).t?.bind fun x => gdK c (anyInt x) fun n => K (some n)
where
  anyInt : T → Option Int
    | .int _ n => some n
    | _ => none

def inB (lo hi n : Int) : Option Unit := if 0 ≤ lo ∧ lo ≤ hi ∧ hi ≤ n then some () else none
def sub (lo hi : Int) (xs : List (List T)) : List (List T) := (xs.drop lo.toNat).take (hi.toNat - lo.toNat)
def zero3 (lo hi m : Int) : Option Unit := if lo = 0 ∧ hi = 0 ∧ m = 0 then some () else none

/-- s[lo:hi] and s[:0:0]. -/
def sliceAV {R : Type} (P : Program) (s : St) (c : Option Bool) (t : TypeId) (x : AV) (lo hi mx : Option Int) (K : AV → Option R) : Option R :=
  match P.underlying t with
  | some .string => match x, mx with
    | .t y, none => gdK c y.str? fun b =>
        gdK c (inB (lo.getD 0) (hi.getD b.size) b.size) fun _ => K (.t (.str (b.extract (lo.getD 0).toNat (hi.getD b.size).toNat)))
    | _, _ => none
  | some (.slice e) => match mx with
    | none => match x with
      | .own j => match s.h j with
        | some (.sl _ sz _ xs) => if sz = P.cellsOf e ∧ tyOk P e = true then
            gdK c (inB (lo.getD 0) (hi.getD xs.length) xs.length) fun _ =>
            K (.part j sz (lo.getD 0).toNat ((hi.getD xs.length).toNat - (lo.getD 0).toNat)) else none
        | _ => none
      | .part j sz off n => match s.h j with
        | some (.sl _ sz' _ _) => if sz = P.cellsOf e ∧ sz' = sz ∧ tyOk P e = true then
            gdK c (inB (lo.getD 0) (hi.getD n) n) fun _ =>
            K (.part j sz (off + (lo.getD 0).toNat) ((hi.getD n).toNat - (lo.getD 0).toNat)) else none
        | _ => none
      | .t y => if tyOk P e = true then gdK c (y.lst? (P.cellsOf e)) fun p =>
          gdK c (inB (lo.getD 0) (hi.getD p.2.length) p.2.length) fun _ =>
          K (.t (.lst (P.cellsOf e) p.1 (sub (lo.getD 0) (hi.getD p.2.length) p.2))) else none
      | _ => none
    | some m => match x with
      | .t y => if tyOk P e = true then gdK c (y.lst? (P.cellsOf e)) fun p => gdK c (zero3 (lo.getD 0) (hi.getD 1) m) fun _ => K (.t (.emp p.1)) else none
      | .own j => match s.h j with
        | some (.sl _ _ b _) => if tyOk P e = false then none else gdK c (zero3 (lo.getD 0) (hi.getD 1) m) fun _ => K (.t (.emp b))
        | _ => none
      | _ => none
  | _ => none

def mkOk (n m : Int) : Option Unit := if 0 ≤ n ∧ n ≤ m ∧ m ≤ lim then some () else none

/-- What append reads. -/
def appended {R : Type} (P : Program) (s : St) (t : TypeId) (sz : Nat) (zs : List T) (y : AV) (K : List (List T) → Option R) : Option R :=
  match P.underlying t with
  | some (.slice _) => (snapOne s.h y).bind fun x => gdK none (x.lst? sz) fun p => K p.2
  | some .string => if sz = 1 then y.t?.bind fun x => gdK none x.str? fun b => K (b.data.toList.map fun u => [.int .u8 u.toNat]) else none
  | some (.int _) => y.t?.bind fun x => gdK none (x.int? .i64) fun n => gdK none (mkOk n n) fun _ => K (List.replicate n.toNat zs)
  | _ => none

/-- Few enough elements of so many bytes each. -/
def fits (bs n : Nat) : Prop := n ≤ lim ∨ (0 < bs ∧ n * bs ≤ 140737488355328)
instance (bs n : Nat) : Decidable (fits bs n) := inferInstanceAs (Decidable (_ ∨ _))
def small (bs n : Nat) : Option Unit := if fits bs n then some () else none

def appendAV {R : Type} (P : Program) (s : St) (d : Nat) (t ty : TypeId) (x y : AV) (K : AV → Upd → Option R) : Option R :=
  (elemT P t).bind fun e => (zeroC P e).bind fun zs =>
  if P.bytesOf e ≤ 8192 ∧ zs.length = P.cellsOf e then
  appended P s ty (P.cellsOf e) zs y fun ys =>
  match x with
  | .own i => match s.h i with
    | some (.sl false sz' b xs) => if sz' = P.cellsOf e then
        gdK none (small (P.bytesOf e) (xs.length + ys.length)) fun _ =>
        K (.own (.s d 0)) [(.s d 0, .sl false (P.cellsOf e) (b && ys.isEmpty) (xs ++ ys)), (i, .dead)] else none
    | _ => none
  | .part i sz'' off n => match s.h i with
    | some (.sl false sz' b xs) => if sz' = P.cellsOf e ∧ sz'' = P.cellsOf e then
        gdK none (small (P.bytesOf e) (n + ys.length)) fun _ =>
        K (.own (.s d 0)) [(.s d 0, .sl false (P.cellsOf e) (b && ys.isEmpty) ((xs.drop off).take n ++ ys)), (i, .dead)] else none
    | _ => none
  | .t (.emp b) => gdK none (small (P.bytesOf e) ys.length) fun _ =>
        K (.own (.s d 0)) [(.s d 0, .sl false (P.cellsOf e) (b && ys.isEmpty) ys)]
  | _ => none
  else none

def makeAV {R : Type} (P : Program) (d : Nat) (t : TypeId) (n m : T) (K : AV → Upd → Option R) : Option R :=
  (elemT P t).bind fun e => (zeroC P e).bind fun zs =>
  gdK none (n.int? .i64) fun n => gdK none (m.int? .i64) fun m =>
  if P.bytesOf e ≤ 8192 ∧ zs.length = P.cellsOf e then
  gdK none (mkOk n m) fun _ =>
    K (.own (.s d 0)) [(.s d 0, .sl false (P.cellsOf e) false (List.replicate n.toNat zs))]
  else none

def mm (isMax : Bool) (a b : Int) : Int := cond isMax (if b > a then b else a) (if b < a then b else a)
def minT {R : Type} (k : IntKind) (c : Option Bool) (isMax : Bool) : Int → List T → (T → Option R) → Option R
  | a, [], K => K (.int k a)
  | a, y :: r, K => gdK c (y.int? k) fun b => minT k c isMax (mm isMax a b) r K

def convT {R : Type} (P : Program) (c : Option Bool) (src dst : TypeId) (x : T) (K : T → Option R) : Option R :=
  match P.underlying src, P.underlying dst with
  | some (.int k), some (.int k') => gdK c (x.int? k) fun n => K (.int k' (k'.wrap n))
  | some .string, some .string => gdK c x.str? fun b => K (.str b)
  | _, _ => none

/-- A slice of bytes, as a string. -/
def bytesOf : List (List T) → Option (List UInt8)
  | [] => some []
  | cs :: r => cs.head?.bind fun x => (x.int? .u8).bind fun n => (bytesOf r).bind fun l => some (UInt8.ofNat n.toNat :: l)

/-- An argument that is handed in to be read alone. -/
def arg1 (fl dp : Bool) (h : Id → Option Blk) : AV → Option (T × Upd)
  | .ref i off => cond fl (match h i with
    | some (.box cs) => (cond dp (snapAll h (cs.drop off)) (allT (cs.drop off))).bind fun l => some (.ptr l, [])
    | some (.fbox l) => some (.ptr (l.drop off), [])
    | _ => none) ((snapOne h (.ref i off)).bind fun x => some (x, frz1 h (.ref i off)))
  | v => (snapOne h v).bind fun x => some (x, cond fl [] (frz1 h v))
def argL (fl dp : Bool) (h : Id → Option Blk) : List AV → Option (List T × Upd)
  | [] => some ([], [])
  | v :: r => (arg1 fl dp h v).bind fun p => (argL fl dp h r).bind fun q => some (p.1 :: q.1, p.2 ++ q.2)
def argV (fl dp : Bool) (h : Id → Option Blk) : AV → Option (AV × Upd)
  | .fn f a b => (argL fl dp h a).bind fun x => (argL fl dp h b).bind fun y => some (.fn f (x.1.map .t) (y.1.map .t), x.2 ++ y.2)
  | .agg vs => (argL fl dp h vs).bind fun x => some (.agg (x.1.map .t), x.2)
  | v => (arg1 fl dp h v).bind fun p => some (.t p.1, p.2)
def argVs (fl dp : Bool) (h : Id → Option Blk) : List AV → Option (List AV × Upd)
  | [] => some ([], [])
  | v :: r => (argV fl dp h v).bind fun p => (argVs fl dp h r).bind fun q => some (p.1 :: q.1, p.2 ++ q.2)

/-- A type whose values hold no address. -/
def flatTy (P : Program) : Nat → TypeId → Bool
  | 0, _ => false
  | n + 1, t => match P.underlying t with
    | some (.int _) | some .bool | some .string => true
    | some (.struct fs) => fs.toList.all fun f => flatTy P n f.type
    | some (.array _ e) => flatTy P n e
    | _ => false

/-- What a call hands back, laid into the caller's state; new blocks are named after the call's slot. -/
def decR {R : Type} (ids : List Id) (d : Nat) (c : Option Bool) (j : Nat) (r : RSh) (x : T) (K : AV → Upd → Nat → Option R) : Option R :=
  match r with
  | .f k => typK k c x fun x => K (.t x) [] j
  | .t k => typK k c x fun x => K (.t x) [] j
  | .own sz => match c with
    | none => gdK none (x.lst? sz) fun p => K (.own (.s d j)) [(.s d j, .sl false sz p.1 p.2)] (j + 1)
    | some _ => none
  | .ref k off => match ids[k]? with
    | some i => K (.ref i off) [] j
    | none => none
  | .no => K .top [] j
  | .agg _ => none
def decL1 {R : Type} (ids : List Id) (d : Nat) (c : Option Bool) : Nat → List RSh → List T → (List AV → Upd → Nat → Option R) → Option R
  | j, [], _, K => K [] [] j
  | j, r :: rs, xs, K => gdK c xs.head? fun x => decR ids d c j r x fun v u j => decL1 ids d c j rs xs.tail fun vs us j => K (v :: vs) (u ++ us) j
def RSh.size : RSh → Nat
  | .agg l => l.length
  | _ => 1
def decL {R : Type} (ids : List Id) (d : Nat) (c : Option Bool) : Nat → List RSh → List T → (List AV → Upd → Nat → Option R) → Option R
  | j, [], _, K => K [] [] j
  | j, r :: rs, xs, K => match r with
    | .agg l => decL1 ids d c j l xs fun v u j => decL ids d c j rs (xs.drop l.length) fun vs us j => K (AV.agg v :: vs) (u ++ us) j
    | r => gdK c xs.head? fun x => decR ids d c j r x fun v u j => decL ids d c j rs xs.tail fun vs us j => K (v :: vs) (u ++ us) j
def sizes : List RSh → Nat
  | [] => 0
  | r :: rs => r.size + sizes rs
/-- What the blocks that were handed in are, behind the call. -/
def decOuts {R : Type} (all : List Id) (d : Nat) : Nat → List Id → List BSh → List T → (Upd → Option R) → Option R
  | j, i :: is, .box l :: r, xs, K => decL1 all d none j l xs fun v u j => decOuts all d j is r (xs.drop l.length) fun q => K (u ++ (i, .box v) :: q)
  | j, i :: is, .sl sz :: r, xs, K => gdK none (xs.head?.bind (T.lst? sz)) fun p => decOuts all d j is r xs.tail fun q => K ((i, .sl false sz p.1 p.2) :: q)
  | j, _ :: is, .dead :: r, xs, K => decOuts all d j is r xs K
  | _, [], [], _, K => K []
  | _, _, _, _, _ => none

def resAV : List AV → AV
  | [v] => v
  | vs => .tup vs

def defSh (P : Program) (t : TypeId) : RSh := cond (isAggT P t) (.agg ((aggK P t).map fun k => cond (flatTy P 8 t) (.f k) (.t k))) (cond (flatTy P 8 t) (.f (cellK P t)) (.t (cellK P t)))
def flatSh : RSh → Bool
  | .f _ => true
  | .agg l => l.all fun r => match r with
    | .f _ => true
    | _ => false
  | _ => false
def resSh (P : Program) (A : Ann) (f : FuncId) (n : Nat) (fn : Func) : List RSh :=
  match A.bref f with
  | some _ => (A.bsig f n).res
  | none => match A.sig f with
    | some sg => sg.res
    | none => fn.resultTypes.toList.map (defSh P)
def outSh (A : Ann) (f : FuncId) (n : Nat) : List BSh :=
  match A.bref f with
  | some _ => (A.bsig f n).outs
  | none => []
/-- A cell that holds a slice of the call's own. -/
def ownAV : AV → Bool
  | .own _ => true
  | .part _ _ _ _ => true
  | _ => false
/-- The shape of the first block that is handed in: its cells, and (in thousands) those that hold own slices. -/
def disc : Option Blk → Nat
  | some (.box cs) => cs.length + 1000 * (cs.filter ownAV).length
  | _ => 0

/-- A callee is asked where the guard holds. -/
def askO (c : Option Bool) (m : Option (List T)) : Option (List T) :=
  match c with
  | none => m
  | some b => cond b m (some [])

def typV {R : Type} (P : Program) (c : Option Bool) (t : TypeId) (v : AV) (K : AV → Option R) : Option R :=
  match v with
  | .t x => typK (cellK P t) c x fun y => K (.t y)
  | .agg vs => match allT vs with
    | some l => typKs c (aggK P t) l fun l => K (.agg (l.map .t))
    | none => K (.agg vs)
  | v => K v
def typVs {R : Type} (P : Program) (c : Option Bool) : List TypeId → List AV → (List AV → Option R) → Option R
  | [], vs, K => K vs
  | _ :: _, [], K => K []
  | t :: ts, v :: vs, K => typV P c t v fun u => typVs P c ts vs fun us => K (u :: us)

/-- The blocks that are handed in by the arguments that are so marked. -/
def byRef : List Bool → List AV → List Id
  | b :: fl, v :: vs => cond b v.ids [] ++ byRef fl vs
  | _, _ => []
def argR (h : Id → Option Blk) (keep : List Id) (b : Bool) (v : AV) : Option (AV × Upd) :=
  cond (b || (!v.ids.isEmpty && v.ids.all keep.contains)) (some (v, [])) (argV false false h v)
def argRs (h : Id → Option Blk) (keep : List Id) : List Bool → List AV → Option (List AV × Upd)
  | _, [] => some ([], [])
  | fl, v :: r => (argR h keep (fl.headD false) v).bind fun p => (argRs h keep fl.tail r).bind fun q => some (p.1 :: q.1, p.2 ++ q.2)

/-- A cell of a box is made to hold a slice of the call's own. -/
def ownCell (h : Id → Option Blk) (new i : Id) (k sz : Nat) : Option Upd :=
  match h i with
  | some (.box cs) => match cs[k]? with
    | some (.own _) => some []
    | some (.t (.emp b)) => cond (h new).isNone (some [(new, .sl false sz b []), (i, .box (cs.set k (.own new)))]) none
    | some (.t (.lst _ true [])) => cond (h new).isNone (some [(new, .sl false sz true []), (i, .box (cs.set k (.own new)))]) none
    | some (.part j sz' 0 n) => match h j with
      | some (.sl false sz'' b xs) => if sz'' = sz ∧ sz' = sz ∧ j ≠ i then cond (h new).isNone (some [(j, .dead), (new, .sl false sz b (xs.take n)), (i, .box (cs.set k (.own new)))]) none else none
      | _ => none
    | _ => none
  | _ => none
def prep (nm : Nat) : Nat → (Id → Option Blk) → List (Id × Nat × Nat) → Option Upd
  | _, _, [] => some []
  | j, h, (i, k, sz) :: r => (ownCell h (.s nm j) i k sz).bind fun us => (prep nm (j + 1) (updH h us) r).bind fun vs => some (us ++ vs)
def dedup : List Id → List Id → List Id
  | [], _ => []
  | i :: r, seen => cond (seen.contains i) (dedup r seen) (i :: dedup r (i :: seen))
def reqB (i : Id) : Nat → List RSh → List (Id × Nat × Nat)
  | _, [] => []
  | k, .own sz :: r => (i, k, sz) :: reqB i (k + 1) r
  | k, _ :: r => reqB i (k + 1) r
def reqs : List Id → List BSh → List (Id × Nat × Nat)
  | i :: is, .box l :: r => reqB i 0 l ++ reqs is r
  | _ :: is, _ :: r => reqs is r
  | _, _ => []
def deads (l : List Id) : Upd := l.map fun i => (i, .dead)
def notOf (d : Nat) (l : List Id) : Bool := l.all fun i => match i with
  | .s d' _ => !(d' == d)
  | .c _ => true

def callAV {R : Type} (P : Program) (A : Ann) (O : Orc) (s : St) (d : Nat) (c : Option Bool) (f : FuncId) (args : List AV) (K : AV → Upd → Option R) : Option R :=
  match P.funcs[f]? with
  | none => none
  | some fn =>
    match A.bref f with
    | none => (argVs ((resSh P A f 0 fn).all flatSh) (A.deep f) s.h args).bind fun p =>
      typVs P c fn.params.toList p.1 fun q => gdK none (askO c (O (.call f) q [])) fun xs => decL [] d c 0 (resSh P A f 0 fn) xs fun vs u _ => K (resAV vs) (p.2 ++ u)
    | some fl => match c with
      | some _ => none
      | none => (argRs s.h (byRef fl args) fl args).bind fun p =>
        (prep (2000000 + d) 0 (updH s.h p.2) (reqs (dedup (idsL p.1) []) (outSh A f (disc ((idsL p.1).head?.bind (updH s.h p.2)))))).bind fun us =>
        (reach (updH (updH s.h p.2) us) 1000 (idsL p.1) []).bind fun seen =>
        cond (notOf d seen && Nat.beq (disc (seen.map fun i => rnB seen (updH (updH s.h p.2) us i)).head?) (disc ((idsL p.1).head?.bind (updH s.h p.2)))) (typVs P none fn.params.toList (rnL seen p.1) fun q =>
          gdK none (O (.call f) q (seen.map fun i => rnB seen (updH (updH s.h p.2) us i))) fun xs =>
          decL seen d none 0 (resSh P A f (disc ((idsL p.1).head?.bind (updH s.h p.2))) fn) xs fun vs u j =>
          decOuts seen d j seen (outSh A f (disc ((idsL p.1).head?.bind (updH s.h p.2)))) (xs.drop (sizes (resSh P A f (disc ((idsL p.1).head?.bind (updH s.h p.2))) fn))) fun q =>
          K (resAV vs) (p.2 ++ us ++ deads seen ++ u ++ q)) none

def gAnd (c : Option Bool) (b : Bool) : Option Bool := some (match c with
  | none => b
  | some a => a && b)
def int1 {R : Type} (c : Option Bool) (v : AV) (K : Int → Option R) : Option R :=
  v.t?.bind fun x => gdK c (boundAV.anyInt x) K

def aop {R : Type} (P : Program) (A : Ann) (O : Orc) (g : Option Gs) (o : Oper) (s : St) (K : AV → Upd → Option R) : Option R :=
  let ev := s.get g
  let c := g.map (·.c)
  let d := o.dst.getD 0
  match o.op with
  | .move x | .assign x => K (ev x) []
  | .pick k a b => (ev k).t?.bind fun k' => gdK c k'.bool? fun kb =>
      (s.getArm g k true a).t?.bind fun x => gdK (gAnd c kb) x.bool? fun xb =>
      (s.getArm g k false b).t?.bind fun y => gdK (gAnd c (!kb)) y.bool? fun yb => K (AV.t (.bool (cond kb xb yb))) []
  | .alloc t => match c with
    | some _ => none
    | none => (zeroC P t).bind fun l => K (.ref (.s d 0) 0) [(.s d 0, .box (l.map .t))]
  | .box _ x => match c with
    | some _ => none
    | none => if (cellsAV (ev x)).all cellAV then K (.ref (.s d 0) 0) [(.s d 0, .box (cellsAV (ev x)))] else none
  | .build t ps => (buildAV P t ev ps.toList).bind fun v => K v []
  | .buildSlice t n ps => (elemT P t).bind fun e => if ps.size = n ∧ n ≤ 1000 ∧ P.cellsOf e ≤ 1000 ∧ 0 < P.cellsOf e ∧ (zeroC P e).isSome = true then
      if n = 0 ∧ A.app o.dst = true then K (.t (.emp false)) [] else
      (elemsAV P s.h e ev 0 ps.toList).bind fun q =>
      match c with
      | some _ => K (.t (.lst (P.cellsOf e) false q.1)) q.2
      | none => K (.own (.s d 0)) ((.s d 0, .sl false (P.cellsOf e) false q.1) :: q.2)
      else none
  | .load t a => loadAV P s c t (ev a) fun v => K v []
  | .store t a x => match c with
    | some _ => none
    | none => storeAV P s t (ev a) (ev x) fun u => K .top u
  | .nilCheck x => match ev x with
    | .ref i k => K (.ref i k) []
    | .el i sz k o => K (.el i sz k o) []
    | .t y => gdK c y.ptr? fun cs => K (.t (.ptr cs)) []
    | .fn f a b => K (.fn f a b) []
    | _ => none
  | .binOp op t x y ty => match op, nilC P t y, nilC P t x with
    | .eql, true, _ => (isNilAV P s t (ev x)).bind fun b => K (.t (.bool b)) []
    | .neq, true, _ => (isNilAV P s t (ev x)).bind fun b => K (.t (.bool (!b))) []
    | .eql, _, true => (isNilAV P s t (ev y)).bind fun b => K (.t (.bool b)) []
    | .neq, _, true => (isNilAV P s t (ev y)).bind fun b => K (.t (.bool (!b))) []
    | .eql, _, _ => eqAV P c t (ev x) (ev y) fun b => K (.t (.bool b)) []
    | .neq, _, _ => eqAV P c t (ev x) (ev y) fun b => K (.t (.bool (!b))) []
    | op, _, _ => (ev x).t?.bind fun a => (ev y).t?.bind fun b => binT P op t ty c a b fun z => K (.t z) []
  | .unOp op t x => (ev x).t?.bind fun a => unT0 P op t c a fun z => K (.t z) []
  | .convert src dst x => match P.underlying src, P.underlying dst with
    | some (.slice e), some .string => match intK P e with
      | some .u8 => (snapOne s.h (ev x)).bind fun y => gdK c ((y.lst? 1).bind fun p => bytesOf p.2) fun l => K (.t (.str ⟨l.toArray⟩)) []
      | _ => none
    | _, _ => (ev x).t?.bind fun a => convT P c src dst a fun z => K (.t z) []
  | .makeFunc (.func f) fst caps => K (.fn f (fst.toList.map ev) (caps.toList.map ev)) []
  | .makeSlice t l m => match c with
    | some _ => none
    | none => (ev l).t?.bind fun n => (ev m).t?.bind fun k => makeAV P d t n k K
  | .slice t x lo hi mx =>
    boundAV s c g lo fun lo => boundAV s c g hi fun hi => boundAV s c g mx fun mx => sliceAV P s c t (ev x) lo hi mx fun v => K v []
  | .fieldAddr t x f => fieldAddrAV P c t (ev x) f fun v => K v []
  | .field t x f => fieldAV P t (ev x) f fun v => K v []
  | .indexAddr t x i => int1 c (ev i) fun n => indexAddrAV P s c t (ev x) n fun v => K v []
  | .index t x i => int1 c (ev i) fun n => match P.underlying t with
    | some .string => (ev x).t?.bind fun y => gdK c y.str? fun b => idxOk c n b.size
        (gdK c b.data.toList[n.toNat]? fun u => K (.t (.int .u8 u.toNat)) [])
    | some (.array m e) => match ev x with
      | .agg vs => cond (tyOk P e) ((allT vs).bind fun l => idxOk c n m (loadT P e c (l.drop (n.toNat * P.cellsOf e)) fun z => K z [])) none
      | _ => none
    | _ => none
  | .extract x k => match ev x with
    | .tup vs => (vs[k]?).bind fun v => K v []
    | _ => none
  | .call cl => match cl.callee with
    | .builtin .len => match cl.args.toList, cl.argTypes.toList with
      | [x], t :: _ => lenAV P s c t (ev x) fun v => K v []
      | _, _ => none
    | .builtin .append => match c, cl.args.toList, cl.argTypes.toList with
      | none, [x, y], [t, u] => appendAV P s d t u (ev x) (ev y) K
      | _, _, _ => none
    | .builtin .max => match intK P o.type with
      | some k => (allT (cl.args.toList.map ev)).bind fun l => match l with
        | x :: r => gdK c (x.int? k) fun a => minT k c true a r fun z => K (.t z) []
        | [] => none
      | none => none
    | .builtin .min => match intK P o.type with
      | some k => (allT (cl.args.toList.map ev)).bind fun l => match l with
        | x :: r => gdK c (x.int? k) fun a => minT k c false a r fun z => K (.t z) []
        | [] => none
      | none => none
    | .value fo => match ev fo with
      | .fn f a b => callAV P A O s d c f (a ++ cl.args.toList.map ev ++ b) K
      | _ => none
    | _ => none
  | _ => none

open Go

section
variable (P : Program) (A : Ann) (O : Orc)

def cmpW (b want : Bool) : Bool := cond want b (!b)
def gC (g : Option Gs) (b want : Bool) : Bool :=
  match g with
  | none => cmpW b want
  | some g0 => cond g0.c (cmpW b want) false

/-- The guard of an operation, as it stands. -/
def guardOf {R : Type} (ops : Array Oper) (o : Oper) (s : St) (K : Option Gs → Option R) : Option R :=
  match o.guard with
  | none => K none
  | some (j, want) => match (ops[j]?).bind (·.dst) with
    | none => none
    | some d => (s.t d).2.t?.bind fun x => gdK ((s.t d).1.map (·.c)) x.bool? fun b =>
        K (some { d := d, want := want, c := gC (s.t d).1 b want })

/-- Operations that change memory that was there. -/
def isW (o : Oper) : Bool :=
  match o.op with
  | .store .. => true
  | .call cl => match cl.callee with
    | .builtin .append => match cl.args.toList with
      | .const (.slice none 0 0) :: _ => false
      | _ => !A.app o.dst
    | .builtin _ => false
    | .value (.func f) => match A.bref f with
      | some _ => true
      | none => match P.funcs[f]? with
        | some _ => A.wr f
        | none => true
    | _ => true
  | _ => false
/-- Calls that hand on no blocks. -/
def flatC (o : Oper) : Bool :=
  match o.op with
  | .call cl => match cl.callee with
    | .value (.func f) => match P.funcs[f]? with
      | some fn => (resSh P A f 0 fn).all flatSh
      | none => false
    | _ => false
  | _ => false
/-- Operations that look at their operands alone. -/
def isPure (o : Oper) : Bool :=
  match o.op with
  | .move _ | .assign _ | .pick .. | .build .. | .unOp .. | .makeFunc .. | .fieldAddr .. | .field .. | .extract .. | .nilCheck _ => true
  | .binOp _ t x y _ => !(nilC P t x || nilC P t y)
  | .call cl => match cl.callee with
    | .builtin .max | .builtin .min => true
    | _ => false
  | _ => false
/-- Calls that read more than the blocks that their operands name. -/
def isD (o : Oper) : Bool :=
  match o.op with
  | .call cl => match cl.callee with
    | .value (.func f) => A.deep f
    | .value _ => true
    | _ => false
  | _ => false
/-- Operations that make no blocks. -/
def quiet (o : Oper) : Bool := isPure P o ||
  match o.op with
  | .load .. | .index .. | .indexAddr .. | .slice .. | .binOp .. | .convert .. => true
  | .call cl => match cl.callee with
    | .builtin .len => true
    | .value (.func _) => !isW P A o && flatC P A o
    | _ => false
  | _ => false
/-- Operations that make a block and look at none. -/
def isAl (o : Oper) : Bool :=
  match o.op with
  | .alloc _ | .box .. | .makeSlice .. => true
  | _ => false
/-- Calls that may hand blocks in. -/
def isR (o : Oper) : Bool :=
  match o.op with
  | .call cl => match cl.callee with
    | .value (.func f) => (A.bref f).isSome
    | .value _ => true
    | _ => false
  | _ => false
def compat (a b : Oper) : Bool := !((isW P A a && !(isPure P b || isAl b)) || (isW P A b && !(isPure P a || isAl a))) && (!isD A a || quiet P A b) && (!isD A b || quiet P A a)

def dsts : List Oper → List Nat
  | [] => []
  | o :: r => match o.dst with
    | some d => d :: dsts r
    | none => dsts r
/-- The slot that an address hangs on. -/
def rootA (ops : Array Oper) (a : Nat) : Nat := match ops.find? (fun o => o.dst == some a) with
  | some o => match o.op with
    | .fieldAddr _ (.tmp b) _ => b
    | _ => a
  | none => a
/-- Where an unguarded store or load goes. -/
def stA (ops : Array Oper) (o : Oper) : Option Nat := match o.guard, o.op with
  | none, .store _ (.tmp a) _ => some (rootA ops a)
  | none, .load _ (.tmp a) => some (rootA ops a)
  | _, _ => none
/-- Two stores to places that are not made in the region. -/
def st2 (ops : Array Oper) (a b : Oper) : Bool := A.st ((ops[0]?).bind (·.dst)) && (match stA ops a, stA ops b with
  | some k, some k' => !(k == k') && !(dsts ops.toList).contains k && !(dsts ops.toList).contains k'
  | _, _ => false)

/-- Is j behind i, through others? -/
def bnd (ops : Array Oper) : Nat → Nat → Nat → Bool
  | 0, _, _ => false
  | n + 1, j, i => match ops[j]? with
    | none => false
    | some oj => oj.after.any fun e => Region.binds .any e && (e.on == i || (Nat.blt i e.on && bnd ops n e.on i))
def freeC (ops : Array Oper) (listed : Array Bool) (i : Nat) : Bool :=
  match ops[i]? with
  | none => false
  | some oi => (List.range ops.size).all fun j => match ops[j]? with
    | none => true
    | some oj => j == i || listed.getD j true || compat P A oi oj || st2 A ops oi oj || bnd ops 12 j i
def lexC (ops : Array Oper) : Nat → Nat → Array Bool → Bool
  | 0, _, _ => true
  | n + 1, k, listed => freeC P A ops listed k && lexC ops n (k + 1) (listed.setIfInBounds k true)

def fresh (h : Id → Option Blk) (us : Upd) : Bool := us.all fun p => (h p.1).isNone

/-- New blocks bear names that are not yet taken. -/
def freshAt (d : Nat) (h : Id → Option Blk) (us : Upd) : Bool := us.all fun p => match p.1 with
  | .s d' _ => !(d' == d) || (h p.1).isNone
  | .c _ => true

/-- Is this slot asked by a guard of the region? -/
def asksG (ops : Array Oper) (d : Option Nat) : Bool :=
  ops.any fun o => match o.guard with
    | none => false
    | some (j, _) => match (ops[j]?).bind (·.dst), d with
      | some e, some d => e == d
      | _, _ => false

/-- In a region whose order is drawn, an operand names only blocks of operations that bind it. -/
def bound (ops : Array Oper) (o : Oper) (d : Nat) : Bool :=
  (List.range ops.size).all fun i => match ops[i]? with
    | some oi => !(oi.dst == some d) || o.after.any (fun e => Region.binds .any e && (e.on == i || bnd ops 12 e.on i))
    | none => true
def namesOk (ops : Array Oper) (g : Option Gs) (o : Oper) (s : St) : Bool :=
  o.op.operands.toList.all fun x => (s.get g x).ids.all fun i => match i with
    | .s d _ => bound ops o d
    | .c _ => true
def newOk (o : Oper) (us : Upd) : Bool := us.all fun p => match p.1 with
  | .s d _ => o.dst == some d
  | .c _ => false

/-- What an operation changes was not made by an operation that it is not bound to. -/
def usOk (ops : Array Oper) (o : Oper) (us : Upd) : Bool := us.all fun p => match p.1 with
  | .s d _ => bound ops o d || o.dst == some d
  | .c _ => true

/-- A store that stands unbound beside another one: it hands on no blocks, and changes its own place alone. -/
def stP (ops : Array Oper) (o o' : Oper) (s : St) (us : Upd) : Bool := match stA ops o, stA ops o' with
  | some k, some k' => (o.op.operands.toList.all fun x => (s.get none x).ids.all fun i => decide (i ∈ (s.t k).2.ids)) && us.all (fun p => decide (p.1 ∈ (s.t k).2.ids)) && us.all (fun p => decide (p.1 ∉ (s.t k').2.ids))
  | _, _ => false
def stOk (ops : Array Oper) (o : Oper) (s : St) (us : Upd) : Bool := ops.all fun o' => !(st2 A ops o o') || stP ops o o' s us

def okOp (draw : Bool) (nt : Nat) (ops : Array Oper) (o : Oper) (g : Option Gs) (s : St) (us : Upd) : Bool :=
  (match o.dst with | some d => decide (d < nt) | none => true) &&
  (match g with | some g => us.isEmpty && !(o.dst == some g.d) | none => true) &&
  freshAt (o.dst.getD 0) s.h us && (!draw || (namesOk ops g o s && (isW P A o || newOk o us) && (!isPure P o || us.isEmpty) && (!quiet P A o || us.isEmpty) && (!isW P A o || usOk ops o us) && Nat.ble nt 1000000 && stOk A ops o s us))

/-- A guarded call by reference, outside drawn regions: the run splits. -/
def splitG (draw : Bool) (o : Oper) (g : Option Gs) : Option Gs :=
  match g with
  | some g => cond (!draw && isR A o) (some g) none
  | none => none
def dstOk (nt : Nat) (o : Oper) (g : Gs) : Bool := (match o.dst with | some d => decide (d < nt) | none => true) && !(o.dst == some g.d)
/-- What stands for the result of a call that is not made. -/
def noneAV (o : Oper) : AV :=
  match o.op with
  | .call cl => match cl.callee with
    | .value (.func f) => match P.funcs[f]? with
      | some fn => match resSh P A f 0 fn with
        | [.f .b] => .t (.bool false)
        | [.f (.i k)] => .t (.int k 0)
        | _ => .top
      | none => .top
    | _ => match P.underlying o.type with
      | some .bool => .t (.bool false)
      | some (.int k) => .t (.int k 0)
      | _ => .top
  | _ => .top

def oneOp {R : Type} (draw : Bool) (nt : Nat) (ops : Array Oper) (o : Oper) (s : St) (K : St → Option R) : Option R :=
  guardOf ops o s fun g => match splitG A draw o g with
  | some gs => cond (dstOk nt o gs) (cond gs.c
      (aop P A O none o (s.openG gs) fun v us =>
        if okOp P A draw nt ops o none s us then K (s.put (asksG ops o.dst) o.dst (some gs) v us) else none)
      (K (s.put (asksG ops o.dst) o.dst (some gs) (noneAV P A o) []))) none
  | none => aop P A O g o s fun v us =>
    if okOp P A draw nt ops o g s us then K (s.put (asksG ops o.dst) o.dst g v us) else none

def rops {R : Type} (draw : Bool) (nt : Nat) (ops : Array Oper) : List Oper → St → (St → Option R) → Option R
  | [], s, K => K s
  | o :: r, s, K => oneOp P A O draw nt ops o s fun s' => rops draw nt ops r s' K

/-- Behind a region nothing stands under a guard. -/
def St.clear (s : St) : St :=
  { t := fun k => match s.t k with
      | (none, v) => (none, v)
      | (some _, _) => (none, .top)
    h := s.h }

def nodupN : List Nat → Bool
  | [] => true
  | d :: r => !r.contains d && nodupN r
def guardsOk (ops : Array Oper) : Bool := ops.all fun o => match o.guard with
  | none => true
  | some (j, _) => o.after.any fun e => Region.binds .any e && e.on == j
def regOk (draw : Bool) (ops : Array Oper) : Bool :=
  !draw || (Region.lexB .any ops && lexC P A ops ops.size 0 (Array.replicate ops.size false) && nodupN (dsts ops.toList) && guardsOk ops)

def region {R : Type} (nt : Nat) (draw : Bool) (ops : Array Oper) (s : St) (K : St → Option R) : Option R :=
  cond (regOk P A draw ops)
    (rops P A O draw nt ops ops.toList s fun s' => K s'.clear) none

def normAV (h : Id → Option Blk) : AV → AV
  | .own i => match h i with
    | some (.sl true sz b xs) => .t (.lst sz b xs)
    | _ => .own i
  | .part i sz off n => match h i with
    | some (.sl true sz' b xs) => if sz' = sz then .t (.lst sz b ((xs.drop off).take n)) else .part i sz off n
    | _ => .part i sz off n
  | .ref i off => match h i with
    | some (.fbox l) => .t (.ptr (l.drop off))
    | _ => .ref i off
  | v => v

/-- What a slot hands on; a nil slice may be handed on as a slice of the call's own. -/
def liveAV (s : St) (k : Nat × Option Nat) : Option (AV × Upd) :=
  match s.t k.1 with
  | (some _, _) => none
  | (none, v) => match k.2 with
    | none => some (normAV s.h v, [])
    | some sz => if sz = 0 ∨ sz ≥ 1000000 then some (normAV s.h v, []) else match v with
      | .own i => match s.h i with
        | some (.sl false _ _ _) => some (.own i, [])
        | _ => none
      | .t (.emp b) => some (.own (.s (1000000 + k.1) 0), [(.s (1000000 + k.1) 0, .sl false sz b [])])
      | _ => none
def liveAll (s : St) : List (Nat × Option Nat) → Option (List AV × Upd)
  | [] => some ([], [])
  | k :: r => (liveAV s k).bind fun p => (liveAll s r).bind fun q => some (p.1 :: q.1, p.2 ++ q.2)

def toNode1 (f : FuncId) (todo : List Item) (live : List (Nat × Option Nat)) (m : Nat × Nat) (s : St) : Option (List T) :=
  (liveAll s live).bind fun p =>
    if fresh s.h p.2 then
    let h := updH s.h p.2
    (reach h 1000 ((List.range m.1).map Id.c ++ idsL p.1) []).bind fun seen =>
      O (.node f todo live m) (rnL seen p.1) (seen.map fun i => rnB seen (h i))
    else none
/-- What is shut at a cut: the slots that are marked by 0. -/
def frzLive (s : St) : List (Nat × Option Nat) → Upd
  | [] => []
  | (k, some 0) :: r => frz1 s.h (s.t k).2 ++ frzLive s r
  | _ :: r => frzLive s r
/-- Cells of boxes that are to hold slices of the call's own: the slots that are marked by 1000000 * (cell + 1) + size. -/
def reqLive (s : St) : List (Nat × Option Nat) → List (Id × Nat × Nat)
  | [] => []
  | (k, some n) :: r => match cond (Nat.ble 1000000 n) (s.t k).2 .top with
    | .ref i _ => (i, n / 1000000 - 1, n % 1000000) :: reqLive s r
    | _ => reqLive s r
  | _ :: r => reqLive s r
def toNode (f : FuncId) (todo : List Item) (live : List (Nat × Option Nat)) (m : Nat × Nat) (s : St) : Option (List T) :=
  (prep 1900000 0 (updH s.h (frzLive s live)) (reqLive s live)).bind fun us =>
    toNode1 O f todo live m { t := s.t, h := updH (updH s.h (frzLive s live)) us }

def fromNode (live : List (Nat × Option Nat)) (vals : List AV) (blks : List Blk) : St :=
  { t := fun k => (none, look live vals k)
    h := fun
      | .c j => blks[j]?
      | .s _ _ => none }
where
  look : List (Nat × Option Nat) → List AV → Nat → AV
  | (k, _) :: ks, v :: vs, j => if j = k then v else look ks vs j
  | _, _, _ => .top

/-- The first region of a loop's body: the loop's name. -/
def rid : Code → Nat
  | .region id _ _ => id
  | .seq a _ => rid a
  | .block _ b => rid b
  | .cond _ a _ => rid a
  | _ => 1000000

def ownRes (h : Id → Option Blk) (sz : Nat) : AV → Option (T × Id)
  | .own i => match h i with
    | some (.sl false sz' b xs) => if sz' = sz then some (.lst sz b xs, i) else none
    | _ => none
  | _ => none
/-- What is told: the cell, the blocks that the caller owns from now on, the blocks that are only shared. -/
def encR {R : Type} (m : Nat) (h : Id → Option Blk) (r : RSh) (v : AV) (K : T → List Id → List Id → Option R) : Option R :=
  match r with
  | .f _ => v.t?.bind fun x => gdK none x.flat? fun _ => K x [] []
  | .t _ => (snapOne h v).bind fun x => K x [] ((frz1 h v).map (·.1))
  | .own sz => match v with
    | .own i => (ownRes h sz (.own i)).bind fun p => K p.1 [p.2] []
    | .part i sz' 0 n => match h i with
      | some (.sl false sz'' b xs) => if sz'' = sz ∧ sz' = sz then K (.lst sz b (xs.take n)) [i] [] else none
      | _ => none
    | .t (.emp b) => K (.emp b) [] []
    | .t (.lst _ true []) => K (.emp true) [] []
    | _ => none
  | .ref k off => match v with
    | .ref (.c k') off' => if k' = k ∧ off' = off ∧ k < m then K .nilp [] [] else none
    | _ => none
  | .no => match v with
    | .ref _ _ => K .nilp [] []
    | _ => none
  | .agg _ => none
def encL1 {R : Type} (m : Nat) (h : Id → Option Blk) : List RSh → List AV → (List T → List Id → List Id → Option R) → Option R
  | [], [], K => K [] [] []
  | r :: rs, v :: vs, K => encR m h r v fun x a b => encL1 m h rs vs fun xs a' b' => K (x :: xs) (a ++ a') (b ++ b')
  | _, _, _ => none
def encL {R : Type} (m : Nat) (h : Id → Option Blk) : List RSh → List AV → (List T → List Id → List Id → Option R) → Option R
  | [], [], K => K [] [] []
  | r :: rs, v :: vs, K => match r with
    | .agg l => match v with
      | .agg cs => encL1 m h l cs fun xs a b => encL m h rs vs fun ys a' b' => K (xs ++ ys) (a ++ a') (b ++ b')
      | _ => none
    | r => encR m h r v fun x a b => encL m h rs vs fun xs a' b' => K (x :: xs) (a ++ a') (b ++ b')
  | _, _, _ => none
/-- The blocks that were handed in, as they are now. -/
def encOuts {R : Type} (m : Nat) (h : Id → Option Blk) : Nat → List BSh → (List T → List Id → List Id → Option R) → Option R
  | _, [], K => K [] [] []
  | j, .box l :: r, K => match h (.c j) with
    | some (.box cs) => encL1 m h l cs fun xs a b => encOuts m h (j + 1) r fun ys a' b' => K (xs ++ ys) (.c j :: (a ++ a')) (b ++ b')
    | _ => none
  | j, .sl sz :: r, K => match h (.c j) with
    | some (.sl false sz' b xs) => if sz' = sz then encOuts m h (j + 1) r fun ys a' b' => K (.lst sz b xs :: ys) (.c j :: a') b' else none
    | _ => none
  | j, .dead :: r, K => encOuts m h (j + 1) r K

def resVals {R : Type} (s : St) : List ResultVar → (List AV → Option R) → Option R
  | [], K => K []
  | .tmp k :: r, K => match s.t k with
      | (none, v) => resVals s r fun l => K (v :: l)
      | _ => none
  | .cell k t :: r, K => match s.t k with
      | (none, v) => loadAV P s none t v fun v => resVals s r fun l => K (v :: l)
      | _ => none

def nodupB : List Id → Bool
  | [] => true
  | i :: r => !r.contains i && nodupB r

def finish (f : FuncId) (fn : Func) (m : Nat × Nat) (s : St) : Option (List T) :=
  resVals P s fn.results.toList fun vs =>
    if m.1 = (outSh A f m.2).length then
    encL m.1 s.h (resSh P A f m.2 fn) vs fun xs a b => encOuts m.1 s.h 0 (outSh A f m.2) fun ys a' b' =>
      if nodupB (a ++ a') && (b ++ b').all (fun i => !(a ++ a').contains i) then some (xs ++ ys) else none
    else none

/-- From a list of what is to be done on; 'cut': whether the next place may be a cut. -/
def ev (f : FuncId) (fn : Func) (m : Nat × Nat) : Nat → Bool → List Item → St → Option (List T)
  | 0, _, _, _ => none
  | n + 1, cut, todo, s => match todo with
    | [] => finish P A f fn m s
    | .code c :: k => match c with
      | .skip => ev f fn m n true k s
      | .seq a b => ev f fn m n cut (.code a :: .code b :: k) s
      | .region id ops draw => match cond cut (A.join f id) none with
        | some live => toNode O f (.code (.region id ops draw) :: k) live m s
        | none => region P A O fn.ntmps draw ops s fun s' => ev f fn m n true k s'
      | .cond x a b => (s.get none x).t?.bind fun y => gdK none y.bool? fun t => cond t (ev f fn m n true (.code a :: k) s) (ev f fn m n true (.code b :: k) s)
      | .block id b => ev f fn m n cut (.code b :: .inBlock id :: k) s
      | .loop b => match A.live f (rid b) with
        | some live => toNode O f (.inLoop b :: k) live m s
        | none => none
      | .exit id => match exitTo id k with
        | some k' => ev f fn m n true k' s
        | none => none
      | .ret => finish P A f fn m s
      | _ => none
    | .inBlock _ :: k => ev f fn m n true k s
    | .inLoop b :: k => match A.live f (rid b) with
        | some live => toNode O f (.inLoop b :: k) live m s
        | none => none
    | _ :: _ => none

def fuel : Nat := 100000

def fromCall (vals : List AV) (blks : List Blk) : St :=
  { t := fun k => (none, vals.getD k .top)
    h := fun
      | .c j => blks[j]?
      | .s _ _ => none }

def stepO : Orc
  | .call f, vals, blks => match P.funcs[f]? with
    | some fn => match fn.body with
      | some c => if vals.length ≤ fn.ntmps then ev P A O f fn (blks.length, disc blks.head?) fuel true [.code c] (fromCall vals blks) else none
      | none => none
    | none => none
  | .node f todo live m, vals, blks => match P.funcs[f]? with
    | some fn => match todo with
      | .inLoop b :: k => ev P A O f fn m fuel true (.code b :: .inLoop b :: k) (fromNode live vals blks)
      | todo => ev P A O f fn m fuel false todo (fromNode live vals blks)
    | none => none

end

/-- The place of a loop, or of a region, in a body: what is to be done on from there. -/
def findTodo (loop : Bool) (r : Nat) : Code → List Item → Option (List Item)
  | .seq a b, k => match findTodo loop r a (.code b :: k) with
    | some t => some t
    | none => findTodo loop r b k
  | .block id b, k => findTodo loop r b (.inBlock id :: k)
  | .loop b, k => if loop && rid b == r then some (.inLoop b :: k) else findTodo loop r b (.inLoop b :: k)
  | .cond _ a b, k => match findTodo loop r a k with
    | some t => some t
    | none => findTodo loop r b k
  | .region id ops draw, k => if !loop && id == r then some (.code (.region id ops draw) :: k) else none
  | _, _ => none
def nodeKey (P : Program) (f : FuncId) (loop : Bool) (r : Nat) (live : List (Nat × Option Nat)) (m : Nat × Nat) : Key :=
  .node f (match P.funcs[f]? with
    | some fn => match fn.body with
      | some c => (findTodo loop r c []).getD []
      | none => []
    | none => []) live m

/-- The limit: what some depth tells. -/
def orcN (P : Program) (A : Ann) : Nat → Orc
  | 0 => fun _ _ _ => none
  | n + 1 => stepO P A (orcN P A n)

open Classical in
noncomputable def orc (P : Program) (A : Ann) : Orc := fun k vs bs =>
  if h : ∃ n r, orcN P A n k vs bs = some r then some (Classical.choose (Classical.choose_spec h)) else none

open Go

section
variable (w : World) (A : Nat → Prop)
mutual
def RelT : T → Value → Prop
  | .int k n, v => v = .int k n
  | .bool b, v => v = .bool b
  | .str s, v => v = .string s
  | .lst sz b xs, v => (b = true ∧ xs = [] ∧ v = .slice none 0 0) ∨
      (b = false ∧ ∃ blk off sp cap, v = .slice (some ⟨blk, off, sp⟩) xs.length cap ∧ xs.length ≤ cap ∧ (xs = [] ∨ (sp = none ∧ A blk)) ∧ RelEls blk sz off xs)
  | .emp b, v => (b = true ∧ v = .slice none 0 0) ∨ (b = false ∧ ∃ blk off sp, v = .slice (some ⟨blk, off, sp⟩) 0 0)
  | .ptr cs, v => ∃ blk off, v = .pointer (some ⟨blk, off, none⟩) ∧ (cs = [] ∨ A blk) ∧ RelAt blk off cs
  | .nilp, v => v = .pointer none
  | .nilm, v => v = .map none
  | .nilf, v => v = .nilFunc
  | .nili, v => v = .nilIface
def RelEls (blk sz : Nat) : Nat → List (List T) → Prop
  | _, [] => True
  | off, cs :: xs => cs.length = sz ∧ RelAt blk off cs ∧ RelEls blk sz (off + sz) xs
def RelAt (blk : Nat) : Nat → List T → Prop
  | _, [] => True
  | off, c :: cs => (∃ v, w.cell? ⟨blk, off, none⟩ = some v ∧ RelT c v) ∧ RelAt blk (off + 1) cs
end
def RelTs : List T → List Value → Prop
  | [], vs => vs = []
  | c :: cs, vs => ∃ v r, vs = v :: r ∧ RelT w A c v ∧ RelTs cs r
end

section
variable {w w' : World} {A A' : Nat → Prop}

theorem cell_of_block {a : Addr} (h : w'.heap[a.block]? = w.heap[a.block]?) : w'.cell? a = w.cell? a := by simp [World.cell?, h]

mutual
theorem RelT.mono (h : ∀ b, A b → A' b ∧ w'.heap[b]? = w.heap[b]?) : ∀ (t : T) (v : Value), RelT w A t v → RelT w' A' t v
  | .int k n, v, hv => by simpa [RelT] using hv
  | .bool b, v, hv => by simpa [RelT] using hv
  | .str s, v, hv => by simpa [RelT] using hv
  | .emp b, v, hv => by simpa [RelT] using hv
  | .nilp, v, hv => by simpa [RelT] using hv
  | .nilm, v, hv => by simpa [RelT] using hv
  | .nilf, v, hv => by simpa [RelT] using hv
  | .nili, v, hv => by simpa [RelT] using hv
  | .lst sz b xs, v, hv => by
    simp only [RelT] at hv ⊢
    rcases hv with hv | ⟨hb, blk, off, sp, cap, h1, h2, h3, h4⟩
    · exact .inl hv
    · refine .inr ⟨hb, blk, off, sp, cap, h1, h2, ?_, ?_⟩
      · rcases h3 with h3 | h3
        · exact .inl h3
        · exact .inr ⟨h3.1, (h _ h3.2).1⟩
      · rcases h3 with h3 | h3
        · subst h3; simp [RelEls]
        · exact RelEls.mono h blk sz h3.2 off xs h4
  | .ptr cs, v, hv => by
    simp only [RelT] at hv ⊢
    obtain ⟨blk, off, h1, h2, h3⟩ := hv
    refine ⟨blk, off, h1, ?_, ?_⟩
    · rcases h2 with h2 | h2
      · exact .inl h2
      · exact .inr (h _ h2).1
    · rcases h2 with h2 | h2
      · subst h2; simp [RelAt]
      · exact RelAt.mono h blk h2 off cs h3
theorem RelEls.mono (h : ∀ b, A b → A' b ∧ w'.heap[b]? = w.heap[b]?) (blk sz : Nat) (hb : A blk) : ∀ (off : Nat) (xs : List (List T)), RelEls w A blk sz off xs → RelEls w' A' blk sz off xs
  | _, [], _ => by simp [RelEls]
  | off, cs :: xs, hv => by
    simp only [RelEls] at hv ⊢
    exact ⟨hv.1, RelAt.mono h blk hb off cs hv.2.1, RelEls.mono h blk sz hb (off + sz) xs hv.2.2⟩
theorem RelAt.mono (h : ∀ b, A b → A' b ∧ w'.heap[b]? = w.heap[b]?) (blk : Nat) (hb : A blk) : ∀ (off : Nat) (cs : List T), RelAt w A blk off cs → RelAt w' A' blk off cs
  | _, [], _ => by simp [RelAt]
  | off, c :: cs, hv => by
    simp only [RelAt] at hv ⊢
    obtain ⟨⟨v, hc, hr⟩, hrest⟩ := hv
    exact ⟨⟨v, by rw [cell_of_block (w := w) (by exact (h blk hb).2)]; exact hc, RelT.mono h c v hr⟩, RelAt.mono h blk hb (off + 1) cs hrest⟩
end

/-- The cells of a block that is not among the immutable ones may be read through a world that keeps that block. -/
theorem RelAt.mono' (h : ∀ b, A b → A' b ∧ w'.heap[b]? = w.heap[b]?) (blk : Nat) (hb : w'.heap[blk]? = w.heap[blk]?) : ∀ (off : Nat) (cs : List T), RelAt w A blk off cs → RelAt w' A' blk off cs
  | _, [], _ => by simp [RelAt]
  | off, c :: cs, hv => by
    simp only [RelAt] at hv ⊢
    obtain ⟨⟨v, hc, hr⟩, hrest⟩ := hv
    exact ⟨⟨v, by rw [cell_of_block (w := w) (by exact hb)]; exact hc, RelT.mono h c v hr⟩, RelAt.mono' h blk hb (off + 1) cs hrest⟩
theorem RelEls.mono' (h : ∀ b, A b → A' b ∧ w'.heap[b]? = w.heap[b]?) (blk sz : Nat) (hb : w'.heap[blk]? = w.heap[blk]?) : ∀ (off : Nat) (xs : List (List T)), RelEls w A blk sz off xs → RelEls w' A' blk sz off xs
  | _, [], _ => by simp [RelEls]
  | off, cs :: xs, hv => by
    simp only [RelEls] at hv ⊢
    exact ⟨hv.1, RelAt.mono' h blk hb off cs hv.2.1, RelEls.mono' h blk sz hb (off + sz) xs hv.2.2⟩
theorem RelTs.mono (h : ∀ b, A b → A' b ∧ w'.heap[b]? = w.heap[b]?) : ∀ (cs : List T) (vs : List Value), RelTs w A cs vs → RelTs w' A' cs vs
  | [], _, hv => hv
  | c :: cs, vs, ⟨v, r, e, h1, h2⟩ => ⟨v, r, e, RelT.mono h c v h1, RelTs.mono h cs r h2⟩

theorem RelEls.get {blk sz : Nat} : ∀ {off : Nat} {xs : List (List T)}, RelEls w A blk sz off xs → ∀ {k : Nat} {cs : List T}, xs[k]? = some cs → cs.length = sz ∧ RelAt w A blk (off + k * sz) cs
  | off, cs :: xs, h, 0, cs', e => by
    simp only [RelEls] at h
    simp at e; subst e
    exact ⟨h.1, by simpa using h.2.1⟩
  | off, cs :: xs, h, k + 1, cs', e => by
    simp only [RelEls] at h
    have := RelEls.get h.2.2 (k := k) (cs := cs') (by simpa using e)
    refine ⟨this.1, ?_⟩
    have he : off + (k + 1) * sz = off + sz + k * sz := by rw [Nat.succ_mul]; omega
    rw [he]; exact this.2
theorem RelAt.get {blk : Nat} : ∀ {off : Nat} {cs : List T}, RelAt w A blk off cs → ∀ {k : Nat} {c : T}, cs[k]? = some c → ∃ v, w.cell? ⟨blk, off + k, none⟩ = some v ∧ RelT w A c v
  | off, c :: cs, h, 0, c', e => by
    simp only [RelAt] at h
    simp at e; subst e
    exact h.1
  | off, c :: cs, h, k + 1, c', e => by
    simp only [RelAt] at h
    have := RelAt.get h.2 (k := k) (c := c') (by simpa using e)
    have he : off + 1 + k = off + (k + 1) := by omega
    rw [he] at this; exact this
theorem RelAt.drop {blk : Nat} : ∀ {off : Nat} {cs : List T}, RelAt w A blk off cs → ∀ (n : Nat), RelAt w A blk (off + n) (cs.drop n)
  | _, _, h, 0 => by simpa using h
  | _, [], _, n + 1 => by simp [RelAt]
  | off, c :: cs, h, n + 1 => by
    simp only [RelAt] at h
    have := RelAt.drop h.2 n
    have he : off + 1 + n = off + (n + 1) := by omega
    rw [he] at this
    simpa using this
theorem RelEls.drop {blk sz : Nat} : ∀ {off : Nat} {xs : List (List T)}, RelEls w A blk sz off xs → ∀ (n : Nat), RelEls w A blk sz (off + n * sz) (xs.drop n)
  | _, _, h, 0 => by simpa using h
  | _, [], _, n + 1 => by simp [RelEls]
  | off, cs :: xs, h, n + 1 => by
    simp only [RelEls] at h
    have := RelEls.drop h.2.2 n
    have he : off + sz + n * sz = off + (n + 1) * sz := by rw [Nat.succ_mul]; omega
    rw [he] at this
    simpa using this
theorem RelEls.take {blk sz : Nat} : ∀ {off : Nat} {xs : List (List T)}, RelEls w A blk sz off xs → ∀ (n : Nat), RelEls w A blk sz off (xs.take n)
  | _, _, _, 0 => by simp [RelEls]
  | _, [], _, n + 1 => by simp [RelEls]
  | off, cs :: xs, h, n + 1 => by
    simp only [RelEls] at h
    simp only [List.take_succ_cons, RelEls]
    exact ⟨h.1, h.2.1, RelEls.take h.2.2 n⟩
theorem RelEls.append {blk sz : Nat} : ∀ {off : Nat} {xs ys : List (List T)}, RelEls w A blk sz off xs → RelEls w A blk sz (off + xs.length * sz) ys → RelEls w A blk sz off (xs ++ ys)
  | off, [], ys, _, h => by simpa using h
  | off, cs :: xs, ys, h, h' => by
    simp only [RelEls] at h
    simp only [List.cons_append, RelEls]
    refine ⟨h.1, h.2.1, RelEls.append h.2.2 ?_⟩
    have he : off + sz + xs.length * sz = off + (cs :: xs).length * sz := by simp [Nat.succ_mul]; omega
    rw [he]; exact h'

theorem RelT.oneCell {t : T} {v : Value} (h : RelT w A t v) : v.oneCell' = true ∧ v.cells = #[v] := by
  cases t <;> simp only [RelT] at h
  case lst => rcases h with ⟨_, _, rfl⟩ | ⟨_, _, _, _, _, rfl, _⟩ <;> exact ⟨rfl, rfl⟩
  case emp => rcases h with ⟨_, rfl⟩ | ⟨_, _, _, _, rfl⟩ <;> exact ⟨rfl, rfl⟩
  case ptr => obtain ⟨_, _, rfl, _⟩ := h; exact ⟨rfl, rfl⟩
  all_goals subst h; exact ⟨rfl, rfl⟩

theorem RelTs.length : ∀ {cs : List T} {vs : List Value}, RelTs w A cs vs → vs.length = cs.length
  | [], _, h => by simp only [RelTs] at h; simp [h]
  | c :: cs, vs, ⟨v, r, e, _, h⟩ => by subst e; simp [RelTs.length h]
end

section
variable (w : World) (A : Nat → Prop) (ρ : Id → Option Value)
mutual
def RelV : AV → Value → Prop
  | .top, _ => True
  | .t x, v => RelT w A x v
  | .tup vs, v => ∃ ws : List Value, v = .tuple ws.toArray ∧ RelVs vs ws
  | .agg vs, v => ∃ ws : List Value, v = .agg ws.toArray ∧ RelVs vs ws ∧ ∀ u ∈ ws, u.oneCell' = true ∧ u.cells = #[u]
  | .ref i off, v => ∃ b, ρ i = some (.pointer (some ⟨b, 0, none⟩)) ∧ v = .pointer (some ⟨b, off, none⟩)
  | .el i sz k off, v => ∃ b o L cap, ρ i = some (.slice (some ⟨b, o, none⟩) L cap) ∧ v = .pointer (some ⟨b, o + k * sz + off, none⟩)
  | .own i, v => ρ i = some v
  | .part i sz off n, v => ∃ a L cap a', ρ i = some (.slice a L cap) ∧ off + n ≤ L ∧ L ≤ cap ∧ v = .slice a' n (cap - off) ∧
      ((off = 0 ∧ a' = a) ∨ (off = cap ∧ (a' = none ↔ a = none) ∧ True) ∨ ∃ b o, a = some ⟨b, o, none⟩ ∧ a' = some ⟨b, o + off * sz, none⟩)
  | .fn f xs ys, v => ∃ x' y' : List Value, v = .func (.func f) x'.toArray y'.toArray ∧ RelVs xs x' ∧ RelVs ys y'
def RelVs : List AV → List Value → Prop
  | [], vs => vs = []
  | a :: as, vs => ∃ v r, vs = v :: r ∧ RelV a v ∧ RelVs as r
end
end

section
variable {w w' : World} {A A' : Nat → Prop} {ρ ρ' : Id → Option Value}
mutual
theorem RelV.mono (h : ∀ b, A b → A' b ∧ w'.heap[b]? = w.heap[b]?) (hρ : ∀ i v, ρ i = some v → ρ' i = some v) : ∀ (a : AV) (v : Value), RelV w A ρ a v → RelV w' A' ρ' a v
  | .top, _, _ => by simp [RelV]
  | .t x, v, hv => by simp only [RelV] at hv ⊢; exact RelT.mono h x v hv
  | .tup vs, v, hv => by
    simp only [RelV] at hv ⊢; obtain ⟨ws, e, hw⟩ := hv; exact ⟨ws, e, RelVs.mono h hρ vs ws hw⟩
  | .agg vs, v, hv => by
    simp only [RelV] at hv ⊢; obtain ⟨ws, e, hw, hc⟩ := hv; exact ⟨ws, e, RelVs.mono h hρ vs ws hw, hc⟩
  | .ref i off, v, hv => by
    simp only [RelV] at hv ⊢; obtain ⟨b, e, hw⟩ := hv; exact ⟨b, hρ _ _ e, hw⟩
  | .el i sz k off, v, hv => by
    simp only [RelV] at hv ⊢; obtain ⟨b, o, L, cap, e, hw⟩ := hv; exact ⟨b, o, L, cap, hρ _ _ e, hw⟩
  | .own i, v, hv => by simp only [RelV] at hv ⊢; exact hρ _ _ hv
  | .part i sz off n, v, hv => by
    simp only [RelV] at hv ⊢; obtain ⟨a, L, cap, a', e, hw⟩ := hv; exact ⟨a, L, cap, a', hρ _ _ e, hw⟩
  | .fn f xs ys, v, hv => by
    simp only [RelV] at hv ⊢; obtain ⟨x', y', e, h1, h2⟩ := hv; exact ⟨x', y', e, RelVs.mono h hρ xs x' h1, RelVs.mono h hρ ys y' h2⟩
theorem RelVs.mono (h : ∀ b, A b → A' b ∧ w'.heap[b]? = w.heap[b]?) (hρ : ∀ i v, ρ i = some v → ρ' i = some v) : ∀ (as : List AV) (vs : List Value), RelVs w A ρ as vs → RelVs w' A' ρ' as vs
  | [], _, hv => by simpa [RelVs] using hv
  | a :: as, vs, hv => by
    simp only [RelVs] at hv ⊢; obtain ⟨v, r, e, h1, h2⟩ := hv; exact ⟨v, r, e, RelV.mono h hρ a v h1, RelVs.mono h hρ as r h2⟩
end
theorem RelVs.length : ∀ {as : List AV} {vs : List Value}, RelVs w A ρ as vs → vs.length = as.length
  | [], _, h => by simp only [RelVs] at h; simp [h]
  | a :: as, vs, h => by simp only [RelVs] at h; obtain ⟨v, r, e, _, h⟩ := h; subst e; simp [RelVs.length h]
theorem RelVs.get : ∀ {as : List AV} {vs : List Value}, RelVs w A ρ as vs → ∀ {k : Nat} {a : AV}, as[k]? = some a → ∃ v, vs[k]? = some v ∧ RelV w A ρ a v
  | a :: as, vs, h, 0, a', e => by
    simp only [RelVs] at h; obtain ⟨v, r, rfl, h1, _⟩ := h
    simp at e; subst e; exact ⟨v, rfl, h1⟩
  | a :: as, vs, h, k + 1, a', e => by
    simp only [RelVs] at h; obtain ⟨v, r, rfl, _, h⟩ := h
    obtain ⟨u, hu, hr⟩ := RelVs.get h (k := k) (a := a') (by simpa using e)
    exact ⟨u, by simpa using hu, hr⟩
theorem RelVs.append : ∀ {as bs : List AV} {vs us : List Value}, RelVs w A ρ as vs → RelVs w A ρ bs us → RelVs w A ρ (as ++ bs) (vs ++ us)
  | [], _, _, _, h, h' => by simp only [RelVs] at h; subst h; simpa using h'
  | a :: as, bs, vs, us, h, h' => by
    simp only [RelVs] at h; obtain ⟨v, r, rfl, h1, h⟩ := h
    simp only [List.cons_append, RelVs]
    exact ⟨v, r ++ us, rfl, h1, RelVs.append h h'⟩
theorem RelVs.drop : ∀ {as : List AV} {vs : List Value}, RelVs w A ρ as vs → ∀ n, RelVs w A ρ (as.drop n) (vs.drop n)
  | _, _, h, 0 => by simpa using h
  | [], vs, h, n + 1 => by simp only [RelVs] at h; subst h; simp [RelVs]
  | a :: as, vs, h, n + 1 => by
    simp only [RelVs] at h; obtain ⟨v, r, rfl, h1, h⟩ := h
    simpa using RelVs.drop h n
theorem RelVs.take : ∀ {as : List AV} {vs : List Value}, RelVs w A ρ as vs → ∀ n, RelVs w A ρ (as.take n) (vs.take n)
  | _, _, _, 0 => by simp [RelVs]
  | [], vs, h, n + 1 => by simp only [RelVs] at h; subst h; simp [RelVs]
  | a :: as, vs, h, n + 1 => by
    simp only [RelVs] at h; obtain ⟨v, r, rfl, h1, h⟩ := h
    simp only [List.take_succ_cons, RelVs]
    exact ⟨v, r.take n, rfl, h1, RelVs.take h n⟩
theorem RelVs.of_ts : ∀ {cs : List T} {vs : List Value}, RelTs w A cs vs → RelVs w A ρ (cs.map .t) vs
  | [], _, h => by simpa [RelVs, RelTs] using h
  | c :: cs, vs, ⟨v, r, e, h1, h2⟩ => by
    simp only [List.map_cons, RelVs]; exact ⟨v, r, e, by simpa [RelV] using h1, RelVs.of_ts h2⟩
theorem RelTs.of_allT : ∀ {as : List AV} {cs : List T} {vs : List Value}, allT as = some cs → RelVs w A ρ as vs → RelTs w A cs vs
  | [], cs, vs, h, hv => by simp only [allT, Option.some.injEq] at h; subst h; simpa [RelTs, RelVs] using hv
  | a :: as, cs, vs, h, hv => by
    cases a <;> simp only [allT, reduceCtorEq] at h
    case t x =>
      cases hl : allT as with
      | none => simp [hl] at h
      | some l =>
        simp only [hl, Option.bind_some, Option.some.injEq] at h; subst h
        simp only [RelVs, RelV] at hv
        obtain ⟨v, r, e, h1, h2⟩ := hv
        exact ⟨v, r, e, h1, RelTs.of_allT hl h2⟩
end

open Go

section
variable {R S α : Type}

theorem gdK_nat [Inhabited α] (c : Option Bool) (m : Option α) (k : α → Option R) (f : R → Option S) : (gdK c m k).bind f = gdK c m fun a => (k a).bind f := by
  unfold gdK
  cases m with
  | some a => rfl
  | none => cases c with
    | none => rfl
    | some b => cases b <;> rfl
theorem gdK_some [Inhabited α] {c : Option Bool} {m : Option α} {k : α → Option R} {r : R} (h : gdK c m k = some r) (hc : c = none ∨ c = some true) : ∃ a, m = some a ∧ k a = some r := by
  unfold gdK at h
  cases m with
  | some a => exact ⟨a, rfl, h⟩
  | none => rcases hc with rfl | rfl <;> simp at h
theorem cond_nat (c : Bool) (x y : Option R) (f : R → Option S) : (cond c x y).bind f = cond c (x.bind f) (y.bind f) := by cases c <;> rfl
theorem ite_nat (c : Prop) [Decidable c] (x y : Option R) (f : R → Option S) : (if c then x else y).bind f = if c then x.bind f else y.bind f := by split <;> rfl
theorem none_nat (f : R → Option S) : (none : Option R).bind f = none := rfl

theorem takeK_nat (c : Option Bool) : ∀ (n : Nat) (cs : List T) (K : List T → Option R) (f : R → Option S), (takeK c n cs K).bind f = takeK c n cs fun x => (K x).bind f
  | 0, _, _, _ => rfl
  | n + 1, cs, K, f => by simp only [takeK, gdK_nat, takeK_nat c n]
theorem typK_nat (k : Ck) (c : Option Bool) (x : T) (K : T → Option R) (f : R → Option S) : (typK k c x K).bind f = typK k c x fun x => (K x).bind f := by
  unfold typK; cases k <;> simp only [gdK_nat]
theorem typKs_nat (c : Option Bool) : ∀ (ks : List Ck) (xs : List T) (K : List T → Option R) (f : R → Option S), (typKs c ks xs K).bind f = typKs c ks xs fun x => (K x).bind f
  | [], _, _, _ => rfl
  | _ :: _, [], _, _ => rfl
  | k :: ks, x :: xs, K, f => by simp only [typKs, typK_nat, typKs_nat c ks xs]
theorem arithT_nat (op : BinOp) (k : IntKind) (c : Option Bool) (x y : T) (K : T → Option R) (f : R → Option S) : (arithT op k c x y K).bind f = arithT op k c x y fun x => (K x).bind f := by
  unfold arithT; cases op <;> simp only [gdK_nat, none_nat]
theorem shiftT_nat (op : BinOp) (k ky : IntKind) (c : Option Bool) (x y : T) (K : T → Option R) (f : R → Option S) : (shiftT op k ky c x y K).bind f = shiftT op k ky c x y fun x => (K x).bind f := by
  unfold shiftT; cases op <;> simp only [gdK_nat, none_nat]
theorem strT_nat (op : BinOp) (c : Option Bool) (x y : T) (K : T → Option R) (f : R → Option S) : (strT op c x y K).bind f = strT op c x y fun x => (K x).bind f := by
  unfold strT; cases op <;> simp only [gdK_nat, none_nat]
theorem eqC_nat (P : Program) (c : Option Bool) (t : TypeId) (x y : T) (K : Bool → Option R) (f : R → Option S) : (eqC P c t x y K).bind f = eqC P c t x y fun x => (K x).bind f := by
  unfold eqC; split <;> simp only [gdK_nat, none_nat]
theorem eqCs_nat (P : Program) (c : Option Bool) : ∀ (ts : List TypeId) (xs ys : List T) (K : Bool → Option R) (f : R → Option S), (eqCs P c ts xs ys K).bind f = eqCs P c ts xs ys fun x => (K x).bind f
  | [], [], [], _, _ => rfl
  | t :: ts, x :: xs, y :: ys, K, f => by simp only [eqCs, eqC_nat, eqCs_nat P c ts xs ys]
  | [], [], _ :: _, _, _ => rfl
  | [], _ :: _, _, _, _ => rfl
  | _ :: _, [], _, _, _ => rfl
  | _ :: _, _ :: _, [], _, _ => rfl
theorem binT_nat (P : Program) (op : BinOp) (t ty : TypeId) (c : Option Bool) (x y : T) (K : T → Option R) (f : R → Option S) : (binT P op t ty c x y K).bind f = binT P op t ty c x y fun x => (K x).bind f := by
  unfold binT; cases op <;> simp only [] <;> first | rfl | (split <;> simp only [arithT_nat, shiftT_nat, strT_nat, none_nat])
theorem eqAV_nat (P : Program) (c : Option Bool) (t : TypeId) (x y : AV) (K : Bool → Option R) (f : R → Option S) : (eqAV P c t x y K).bind f = eqAV P c t x y fun x => (K x).bind f := by
  unfold eqAV; split <;> simp only [cond_nat, gdK_nat, eqC_nat, eqCs_nat, Option.bind_assoc, none_nat]
theorem unT0_nat (P : Program) (op : UnOp) (t : TypeId) (c : Option Bool) (x : T) (K : T → Option R) (f : R → Option S) : (unT0 P op t c x K).bind f = unT0 P op t c x fun x => (K x).bind f := by
  unfold unT0; split <;> simp only [gdK_nat, none_nat]
theorem loadT_nat (P : Program) (t : TypeId) (c : Option Bool) (cs : List T) (K : AV → Option R) (f : R → Option S) : (loadT P t c cs K).bind f = loadT P t c cs fun x => (K x).bind f := by
  unfold loadT; simp only [cond_nat, gdK_nat, takeK_nat, typK_nat, typKs_nat]
theorem loadV_nat (P : Program) (t : TypeId) (cs : List AV) (K : AV → Option R) (f : R → Option S) : (loadV P t cs K).bind f = loadV P t cs fun x => (K x).bind f := by
  unfold loadV; simp only [cond_nat, Option.bind_assoc]
theorem loadAV_nat (P : Program) (s : St) (c : Option Bool) (t : TypeId) (a : AV) (K : AV → Option R) (f : R → Option S) : (loadAV P s c t a K).bind f = loadAV P s c t a fun x => (K x).bind f := by
  unfold loadAV; rw [cond_nat]; congr 1; split
  · split <;> simp only [loadV_nat, loadT_nat, none_nat]
  · split <;> simp only [ite_nat, gdK_nat, loadT_nat, none_nat]
  · simp only [gdK_nat, loadT_nat]
  · rfl
theorem storeAV_nat (P : Program) (s : St) (t : TypeId) (a v : AV) (K : Upd → Option R) (f : R → Option S) : (storeAV P s t a v K).bind f = storeAV P s t a v fun x => (K x).bind f := by
  unfold storeAV; rw [cond_nat]; congr 1; split
  · split <;> simp only [ite_nat, none_nat]
  · split <;> simp only [Option.bind_assoc, ite_nat, gdK_nat, none_nat]
  · rfl
theorem idxOk_nat (c : Option Bool) (i : Int) (n : Nat) (K : Option R) (f : R → Option S) : (idxOk c i n K).bind f = idxOk c i n (K.bind f) := by
  unfold idxOk; simp only [gdK_nat]
theorem indexAddrAV_nat (P : Program) (s : St) (c : Option Bool) (t : TypeId) (x : AV) (i : Int) (K : AV → Option R) (f : R → Option S) : (indexAddrAV P s c t x i K).bind f = indexAddrAV P s c t x i fun x => (K x).bind f := by
  unfold indexAddrAV; split
  · split
    · split <;> simp only [ite_nat, idxOk_nat, none_nat]
    · split <;> simp only [ite_nat, idxOk_nat, none_nat]
    · simp only [gdK_nat, idxOk_nat]
    · rfl
  · split
    · rw [idxOk_nat]; congr 1; split <;> simp only [gdK_nat, none_nat]
    · rfl
theorem fieldAddrAV_nat (P : Program) (c : Option Bool) (t : TypeId) (x : AV) (k : Nat) (K : AV → Option R) (f : R → Option S) : (fieldAddrAV P c t x k K).bind f = fieldAddrAV P c t x k fun x => (K x).bind f := by
  unfold fieldAddrAV; split
  · rw [ite_nat]; congr 1; split <;> simp only [gdK_nat, none_nat]
  · rfl
theorem fieldAV_nat (P : Program) (t : TypeId) (x : AV) (k : Nat) (K : AV → Option R) (f : R → Option S) : (fieldAV P t x k K).bind f = fieldAV P t x k fun x => (K x).bind f := by
  unfold fieldAV; split
  · split <;> simp only [loadV_nat, none_nat]
  · rfl
theorem lenAV_nat (P : Program) (s : St) (c : Option Bool) (t : TypeId) (x : AV) (K : AV → Option R) (f : R → Option S) : (lenAV P s c t x K).bind f = lenAV P s c t x fun x => (K x).bind f := by
  unfold lenAV; split
  · split <;> simp only [gdK_nat, none_nat]
  · rfl
  · split
    · split <;> rfl
    · rfl
    · simp only [gdK_nat]
    · rfl
  · rfl
theorem boundAV_nat (s : St) (c : Option Bool) (g : Option Gs) (o : Option Operand) (K : Option Int → Option R) (f : R → Option S) : (boundAV s c g o K).bind f = boundAV s c g o fun x => (K x).bind f := by
  unfold boundAV; split
  · rfl
  · simp only [Option.bind_assoc, gdK_nat]
theorem sliceAV_nat (P : Program) (s : St) (c : Option Bool) (t : TypeId) (x : AV) (lo hi mx : Option Int) (K : AV → Option R) (f : R → Option S) : (sliceAV P s c t x lo hi mx K).bind f = sliceAV P s c t x lo hi mx fun x => (K x).bind f := by
  unfold sliceAV; split
  · split <;> simp only [gdK_nat, none_nat]
  · split
    · split
      · split <;> simp only [ite_nat, gdK_nat, none_nat]
      · split <;> simp only [ite_nat, gdK_nat, none_nat]
      · simp only [ite_nat, gdK_nat, none_nat]
      · rfl
    · split
      · simp only [ite_nat, gdK_nat, none_nat]
      · split <;> simp only [ite_nat, gdK_nat, none_nat]
      · rfl
  · rfl
theorem appended_nat (P : Program) (s : St) (t : TypeId) (sz : Nat) (zs : List T) (y : AV) (K : List (List T) → Option R) (f : R → Option S) : (appended P s t sz zs y K).bind f = appended P s t sz zs y fun x => (K x).bind f := by
  unfold appended; split <;> simp only [Option.bind_assoc, ite_nat, gdK_nat, none_nat]
theorem appendAV_nat (P : Program) (s : St) (d : Nat) (t ty : TypeId) (x y : AV) (K : AV → Upd → Option R) (f : R → Option S) : (appendAV P s d t ty x y K).bind f = appendAV P s d t ty x y fun v u => (K v u).bind f := by
  unfold appendAV; rw [Option.bind_assoc]; congr 1; funext e; rw [Option.bind_assoc]; congr 1; funext zs; rw [ite_nat, appended_nat]; congr 1; congr 1; funext ys
  split
  · split <;> simp only [ite_nat, gdK_nat, none_nat]
  · split <;> simp only [ite_nat, gdK_nat, none_nat]
  · simp only [gdK_nat]
  · rfl
theorem makeAV_nat (P : Program) (d : Nat) (t : TypeId) (n m : T) (K : AV → Upd → Option R) (f : R → Option S) : (makeAV P d t n m K).bind f = makeAV P d t n m fun v u => (K v u).bind f := by
  unfold makeAV; simp only [Option.bind_assoc, gdK_nat, ite_nat, none_nat]
theorem minT_nat (k : IntKind) (c : Option Bool) (b : Bool) : ∀ (l : List T) (a : Int) (K : T → Option R) (f : R → Option S), (minT k c b a l K).bind f = minT k c b a l fun x => (K x).bind f
  | [], _, _, _ => rfl
  | y :: r, a, K, f => by simp only [minT, gdK_nat, minT_nat k c b r]
theorem convT_nat (P : Program) (c : Option Bool) (a b : TypeId) (x : T) (K : T → Option R) (f : R → Option S) : (convT P c a b x K).bind f = convT P c a b x fun x => (K x).bind f := by
  unfold convT; split <;> simp only [gdK_nat, none_nat]
theorem decR_nat (ids : List Id) (d : Nat) (c : Option Bool) (j : Nat) (r : RSh) (x : T) (K : AV → Upd → Nat → Option R) (f : R → Option S) : (decR ids d c j r x K).bind f = decR ids d c j r x fun v u j => (K v u j).bind f := by
  unfold decR; split
  · exact typK_nat _ _ _ _ _
  · exact typK_nat _ _ _ _ _
  · split <;> simp only [gdK_nat, none_nat]
  · split <;> simp only [none_nat]
  · rfl
  · rfl
theorem decL1_nat (ids : List Id) (d : Nat) (c : Option Bool) : ∀ (rs : List RSh) (j : Nat) (xs : List T) (K : List AV → Upd → Nat → Option R) (f : R → Option S), (decL1 ids d c j rs xs K).bind f = decL1 ids d c j rs xs fun v u j => (K v u j).bind f
  | [], _, _, _, _ => rfl
  | r :: rs, j, xs, K, f => by simp only [decL1, gdK_nat, decR_nat, decL1_nat ids d c rs]
theorem decL_nat (ids : List Id) (d : Nat) (c : Option Bool) : ∀ (rs : List RSh) (j : Nat) (xs : List T) (K : List AV → Upd → Nat → Option R) (f : R → Option S), (decL ids d c j rs xs K).bind f = decL ids d c j rs xs fun v u j => (K v u j).bind f
  | [], _, _, _, _ => rfl
  | r :: rs, j, xs, K, f => by cases r <;> simp only [decL, gdK_nat, decR_nat, decL1_nat, decL_nat ids d c rs]
theorem decOuts_nat (all : List Id) (d : Nat) : ∀ (rs : List BSh) (is : List Id) (j : Nat) (xs : List T) (K : Upd → Option R) (f : R → Option S), (decOuts all d j is rs xs K).bind f = decOuts all d j is rs xs fun u => (K u).bind f
  | [], [], _, _, _, _ => rfl
  | [], _ :: _, _, _, _, _ => rfl
  | r :: rs, [], _, _, _, _ => by cases r <;> rfl
  | r :: rs, i :: is, j, xs, K, f => by cases r <;> simp only [decOuts, gdK_nat, decL1_nat, decOuts_nat all d rs]
theorem typV_nat (P : Program) (c : Option Bool) (t : TypeId) (v : AV) (K : AV → Option R) (f : R → Option S) : (typV P c t v K).bind f = typV P c t v fun x => (K x).bind f := by
  unfold typV; split
  · exact typK_nat _ _ _ _ _
  · split
    · exact typKs_nat _ _ _ _ _
    · rfl
  · rfl
theorem typVs_nat (P : Program) (c : Option Bool) : ∀ (ts : List TypeId) (vs : List AV) (K : List AV → Option R) (f : R → Option S), (typVs P c ts vs K).bind f = typVs P c ts vs fun x => (K x).bind f
  | [], _, _, _ => rfl
  | _ :: _, [], _, _ => rfl
  | t :: ts, v :: vs, K, f => by simp only [typVs, typV_nat, typVs_nat P c ts vs]
theorem callAV_nat (P : Program) (A : Ann) (O : Orc) (s : St) (d : Nat) (c : Option Bool) (g : FuncId) (args : List AV) (K : AV → Upd → Option R) (f : R → Option S) :
    (callAV P A O s d c g args K).bind f = callAV P A O s d c g args fun v u => (K v u).bind f := by
  unfold callAV; split
  · rfl
  · split
    · simp only [Option.bind_assoc, gdK_nat, decL_nat, typVs_nat]
    · split
      · rfl
      · simp only [Option.bind_assoc, cond_nat, none_nat, gdK_nat, decL_nat, decOuts_nat, typVs_nat]
theorem int1_nat (c : Option Bool) (v : AV) (K : Int → Option R) (f : R → Option S) : (int1 c v K).bind f = int1 c v fun x => (K x).bind f := by
  unfold int1; simp only [Option.bind_assoc, gdK_nat]

theorem aop_nat (P : Program) (A : Ann) (O : Orc) (g : Option Gs) (o : Oper) (s : St) (K : AV → Upd → Option R) (f : R → Option S) :
    (aop P A O g o s K).bind f = aop P A O g o s fun v u => (K v u).bind f := by
  unfold aop
  cases o.op <;> dsimp only
  case pick => simp only [Option.bind_assoc, gdK_nat]
  case alloc => split <;> simp only [Option.bind_assoc, none_nat]
  case box => split <;> simp only [ite_nat, none_nat]
  case build => simp only [Option.bind_assoc]
  case buildSlice =>
    rw [Option.bind_assoc]; congr 1; funext e; rw [ite_nat]; congr 1; rw [ite_nat]; congr 1; rw [Option.bind_assoc]; congr 1; funext q; split <;> rfl
  case load => simp only [loadAV_nat]
  case store => split <;> simp only [storeAV_nat, none_nat]
  case nilCheck => split <;> simp only [gdK_nat, none_nat]
  case binOp => split <;> simp only [Option.bind_assoc, eqAV_nat, binT_nat]
  case unOp => simp only [Option.bind_assoc, unT0_nat]
  case convert =>
    split
    · split <;> simp only [Option.bind_assoc, gdK_nat, none_nat]
    · simp only [Option.bind_assoc, convT_nat]
  case makeFunc => split <;> simp_all
  case makeSlice => split <;> simp only [Option.bind_assoc, makeAV_nat, none_nat]
  case slice => simp only [boundAV_nat, sliceAV_nat]
  case fieldAddr => simp only [fieldAddrAV_nat]
  case field => simp only [fieldAV_nat]
  case indexAddr => simp only [int1_nat, indexAddrAV_nat]
  case index =>
    simp only [int1_nat]; congr 1; funext n; split
    · simp only [Option.bind_assoc, gdK_nat, idxOk_nat]
    · split <;> simp only [cond_nat, Option.bind_assoc, idxOk_nat, loadT_nat, none_nat]
    · rfl
  case extract => split <;> simp only [Option.bind_assoc, none_nat]
  case call cl =>
    split
    · split <;> simp only [lenAV_nat, none_nat]
    · split <;> simp only [appendAV_nat, none_nat]
    · split
      · rw [Option.bind_assoc]; congr 1; funext l; split <;> simp only [gdK_nat, minT_nat, none_nat]
      · rfl
    · split
      · rw [Option.bind_assoc]; congr 1; funext l; split <;> simp only [gdK_nat, minT_nat, none_nat]
      · rfl
    · split <;> simp only [callAV_nat, none_nat]
    · rfl
  all_goals rfl

/-- What an operation finds. -/
def aopD (P : Program) (A : Ann) (O : Orc) (g : Option Gs) (o : Oper) (s : St) : Option (AV × Upd) := aop P A O g o s fun v u => some (v, u)
theorem aop_eq (P : Program) (A : Ann) (O : Orc) (g : Option Gs) (o : Oper) (s : St) (K : AV → Upd → Option R) : aop P A O g o s K = (aopD P A O g o s).bind fun p => K p.1 p.2 := by
  unfold aopD; rw [aop_nat]; rfl
theorem guardOf_nat (ops : Array Oper) (o : Oper) (s : St) (K : Option Gs → Option R) (f : R → Option S) : (guardOf ops o s K).bind f = guardOf ops o s fun g => (K g).bind f := by
  unfold guardOf; split
  · rfl
  · split
    · rfl
    · simp only [Option.bind_assoc, gdK_nat]
theorem guardOf_eq (ops : Array Oper) (o : Oper) (s : St) (K : Option Gs → Option R) : guardOf ops o s K = (guardOf ops o s some).bind K := by
  rw [guardOf_nat]; rfl
def oneD (P : Program) (A : Ann) (O : Orc) (draw : Bool) (nt : Nat) (ops : Array Oper) (o : Oper) (s : St) : Option St := oneOp P A O draw nt ops o s some
theorem oneOp_eq (P : Program) (A : Ann) (O : Orc) (draw : Bool) (nt : Nat) (ops : Array Oper) (o : Oper) (s : St) (K : St → Option R) : oneOp P A O draw nt ops o s K = (oneD P A O draw nt ops o s).bind K := by
  unfold oneD oneOp
  rw [guardOf_nat]; congr 1; funext g
  cases splitG A draw o g with
  | none =>
    dsimp only
    rw [aop_nat]; congr 1; funext v u
    rw [ite_nat]; rfl
  | some gs =>
    dsimp only
    cases dstOk nt o gs with
    | false => rfl
    | true =>
      cases gs.c with
      | false => rfl
      | true =>
        simp only [cond_true]
        rw [aop_nat]; congr 1; funext v u
        rw [ite_nat]; rfl
def ropsD (P : Program) (A : Ann) (O : Orc) (draw : Bool) (nt : Nat) (ops : Array Oper) : List Oper → St → Option St
  | [], s => some s
  | o :: r, s => (oneD P A O draw nt ops o s).bind (ropsD P A O draw nt ops r)
theorem rops_eq (P : Program) (A : Ann) (O : Orc) (draw : Bool) (nt : Nat) (ops : Array Oper) : ∀ (l : List Oper) (s : St) (K : St → Option R), rops P A O draw nt ops l s K = (ropsD P A O draw nt ops l s).bind K
  | [], _, _ => rfl
  | o :: r, s, K => by
    simp only [rops, ropsD, oneOp_eq, Option.bind_assoc]; congr 1; funext s'; exact rops_eq P A O draw nt ops r s' K
end
open Go

/-- What a call may lean on: blocks that it may read for good, blocks that are its own to change, the heap's size as it began. -/
structure Ctx where
  A0 : Nat → Prop
  M : Nat → Prop
  N0 : Nat

def Ctx.MO (c : Ctx) (b : Nat) : Prop := c.M b ∨ c.N0 ≤ b
def AA (c : Ctx) (w : World) (O : Id → Option Nat) (b : Nat) : Prop := (c.A0 b ∨ c.MO b) ∧ b < w.heap.size ∧ ∀ i, O i ≠ some b

def SlAt (w : World) (A : Nat → Prop) (sz : Nat) (b : Bool) (l : List (List T)) (v : Value) (Q : Nat → Prop) : Prop :=
  ∃ a cap, v = .slice a l.length cap ∧ l.length ≤ cap ∧ (a = none ↔ b = true) ∧ True ∧
    (cap = 0 ∨ ∃ blk off arr t, a = some ⟨blk, off, none⟩ ∧ Q blk ∧ w.heap[blk]? = some (.cells arr t (0, 0)) ∧ off + cap * sz ≤ arr.size ∧ RelEls w A blk sz off l)

def RelB (w : World) (A : Nat → Prop) (ρ : Id → Option Value) (O : Id → Option Nat) (i : Id) : Blk → Prop
  | .box cs => ∃ b arr t, ρ i = some (.pointer (some ⟨b, 0, none⟩)) ∧ O i = some b ∧ w.heap[b]? = some (.cells arr t (0, 0)) ∧ RelVs w A ρ cs arr.toList ∧
      (∀ u ∈ arr.toList, u.oneCell' = true ∧ u.cells = #[u])
  | .sl fz sz b l => ∃ v, ρ i = some v ∧ SlAt w A sz b l v (fun blk => if fz = true then A blk else O i = some blk) ∧ (fz = true → O i = none)
  | .fbox l => ∃ b, ρ i = some (.pointer (some ⟨b, 0, none⟩)) ∧ O i = none ∧ A b ∧ RelAt w A b 0 l
  | .dead => (∃ v, ρ i = some v ∧ v.oneCell' = true ∧ v.cells = #[v]) ∧ O i = none

structure HS (c : Ctx) (w : World) (h : Id → Option Blk) (ρ : Id → Option Value) (O : Id → Option Nat) : Prop where
  blk : ∀ i b, h i = some b → RelB w (AA c w O) ρ O i b
  nodom : ∀ i, h i = none → ρ i = none ∧ O i = none
  inj : ∀ i j b, O i = some b → O j = some b → i = j
  lt : ∀ i b, O i = some b → b < w.heap.size
  own : ∀ i b, O i = some b → c.MO b
  size : c.N0 ≤ w.heap.size

structure Le (w : World) (ρ : Id → Option Value) (O : Id → Option Nat) (w' : World) (ρ' : Id → Option Value) (O' : Id → Option Nat) : Prop where
  os : w'.os = w.os
  output : w'.output = w.output
  tape : w'.tape = w.tape
  size : w.heap.size ≤ w'.heap.size
  rho : ∀ i v, ρ i = some v → ρ' i = some v
  blk : ∀ b, b < w.heap.size → (∀ i, O i ≠ some b) → w'.heap[b]? = w.heap[b]?
  own : ∀ i b, O' i = some b → (∃ j, O j = some b) ∨ w.heap.size ≤ b

section
variable {c : Ctx} {w w' w'' : World} {h h' : Id → Option Blk} {ρ ρ' ρ'' : Id → Option Value} {O O' O'' : Id → Option Nat}

theorem Le.refl : Le w ρ O w ρ O := ⟨rfl, rfl, rfl, Nat.le_refl _, fun _ _ h => h, fun _ _ _ => rfl, fun i b h => .inl ⟨i, h⟩⟩
theorem Le.trans (a : Le w ρ O w' ρ' O') (b : Le w' ρ' O' w'' ρ'' O'') : Le w ρ O w'' ρ'' O'' where
  os := b.os.trans a.os
  output := b.output.trans a.output
  tape := b.tape.trans a.tape
  size := Nat.le_trans a.size b.size
  rho i v h := b.rho i v (a.rho i v h)
  blk k hk hn := by
    rw [b.blk k (Nat.lt_of_lt_of_le hk a.size), a.blk k hk hn]
    intro i hi
    rcases a.own i k hi with ⟨j, hj⟩ | h
    · exact hn j hj
    · omega
  own i k hi := by
    rcases b.own i k hi with ⟨j, hj⟩ | h
    · exact a.own j k hj
    · exact .inr (Nat.le_trans a.size h)
theorem Le.A (le : Le w ρ O w' ρ' O') (b : Nat) (ha : AA c w O b) : AA c w' O' b ∧ w'.heap[b]? = w.heap[b]? := by
  refine ⟨⟨ha.1, Nat.lt_of_lt_of_le ha.2.1 le.size, fun i hi => ?_⟩, le.blk b ha.2.1 ha.2.2⟩
  rcases le.own i b hi with ⟨j, hj⟩ | h
  · exact ha.2.2 j hj
  · have := ha.2.1; omega

theorem SlAt.mono {A A' Q Q' : Nat → Prop} {sz : Nat} {b : Bool} {l : List (List T)} {v : Value} (hA : ∀ b, A b → A' b ∧ w'.heap[b]? = w.heap[b]?)
    (hQ : ∀ b, Q b → Q' b ∧ w'.heap[b]? = w.heap[b]?) (hs : SlAt w A sz b l v Q) : SlAt w' A' sz b l v Q' := by
  obtain ⟨a, cap, h1, h2, h3, h4, h5⟩ := hs
  refine ⟨a, cap, h1, h2, h3, h4, ?_⟩
  rcases h5 with h5 | ⟨blk, off, arr, t, e1, e2, e3, e4, e5⟩
  · exact .inl h5
  · exact .inr ⟨blk, off, arr, t, e1, (hQ _ e2).1, by rw [(hQ _ e2).2]; exact e3, e4, RelEls.mono' hA blk sz (hQ _ e2).2 off l e5⟩

theorem RelB.mono {A A' : Nat → Prop} {i : Id} (hA : ∀ b, A b → A' b ∧ w'.heap[b]? = w.heap[b]?) (hρ : ∀ i v, ρ i = some v → ρ' i = some v) (hO : O' i = O i)
    (hb : ∀ b, O i = some b → w'.heap[b]? = w.heap[b]?) : ∀ {b : Blk}, RelB w A ρ O i b → RelB w' A' ρ' O' i b
  | .box cs, ⟨b, arr, t, e1, e2, e3, e4, e5⟩ => ⟨b, arr, t, hρ _ _ e1, by rw [hO]; exact e2, by rw [hb _ e2]; exact e3, RelVs.mono hA hρ cs _ e4, e5⟩
  | .sl fz sz b l, ⟨v, e1, e2, e3⟩ => by
    refine ⟨v, hρ _ _ e1, SlAt.mono hA (fun b hq => ?_) e2, by rw [hO]; exact e3⟩
    cases fz
    · simp only [Bool.false_eq_true, if_false] at hq ⊢; exact ⟨by rw [hO]; exact hq, hb _ hq⟩
    · simp only [if_true] at hq ⊢; exact hA _ hq
  | .fbox l, ⟨b, e1, e2, e3, e4⟩ => ⟨b, hρ _ _ e1, by rw [hO]; exact e2, (hA b e3).1, RelAt.mono hA b e3 0 l e4⟩
  | .dead, ⟨⟨v, e1, e3⟩, e2⟩ => ⟨⟨v, hρ _ _ e1, e3⟩, by rw [hO]; exact e2⟩

/-- How the whole goes on: each block is as it was, or what it is now is shown. -/
theorem HS.go (hs : HS c w h ρ O) (le : Le w ρ O w' ρ' O')
    (hblk : ∀ i b, h' i = some b → (h i = some b ∧ O' i = O i ∧ (∀ blk, O i = some blk → w'.heap[blk]? = w.heap[blk]?)) ∨ RelB w' (AA c w' O') ρ' O' i b)
    (hnone : ∀ i, h' i = none → ρ' i = none ∧ O' i = none)
    (inj : ∀ i j b, O' i = some b → O' j = some b → i = j) (lt : ∀ i b, O' i = some b → b < w'.heap.size) : HS c w' h' ρ' O' where
  blk i b hb := by
    rcases hblk i b hb with ⟨h1, h2, h3⟩ | h1
    · exact RelB.mono (fun b ha => le.A b ha) le.rho h2 h3 (hs.blk i b h1)
    · exact h1
  nodom := hnone
  inj := inj
  lt := lt
  own i b hi := by
    rcases le.own i b hi with ⟨j, hj⟩ | h
    · exact hs.own j b hj
    · exact .inr (Nat.le_trans hs.size h)
  size := Nat.le_trans hs.size le.size

/-- Only the world goes on (a draw, a callee that keeps what is owned). -/
theorem HS.world (hs : HS c w h ρ O) (le : Le w ρ O w' ρ O) (keep : ∀ i blk, O i = some blk → w'.heap[blk]? = w.heap[blk]?) : HS c w' h ρ O :=
  hs.go le (fun i _ hb => .inl ⟨hb, rfl, fun blk h => keep i blk h⟩) hs.nodom hs.inj fun i b h => Nat.lt_of_lt_of_le (hs.lt i b h) le.size

def upd {α : Type} (f : Id → Option α) (i : Id) (v : Option α) : Id → Option α := fun j => if j = i then v else f j
@[simp] theorem upd_same {α : Type} (f : Id → Option α) (i : Id) (v : Option α) : upd f i v i = v := by simp [upd]
theorem upd_ne {α : Type} (f : Id → Option α) {i j : Id} (v : Option α) (h : j ≠ i) : upd f i v j = f j := by simp [upd, h]

theorem updH_one (h : Id → Option Blk) (i : Id) (b : Blk) : updH h [(i, b)] = upd h i (some b) := rfl
theorem updH_cons (h : Id → Option Blk) (i : Id) (b : Blk) (us : Upd) : updH h ((i, b) :: us) = updH (upd h i (some b)) us := rfl
theorem updH_append (h : Id → Option Blk) : ∀ (us vs : Upd), updH h (us ++ vs) = updH (updH h us) vs
  | [], _ => rfl
  | (i, b) :: us, vs => by simp only [List.cons_append, updH_cons]; exact updH_append _ us vs

theorem Le.alloc (hs : HS c w h ρ O) {i : Id} (hi : h i = none) (o : Obj) (v : Value) (ob : Option Nat) (hob : ob = none ∨ ob = some w.heap.size) :
    Le w ρ O (w.alloc o) (upd ρ i (some v)) (upd O i ob) where
  os := rfl
  output := rfl
  tape := rfl
  size := by simp
  rho j u hj := by
    by_cases e : j = i
    · subst e; rw [(hs.nodom _ hi).1] at hj; cases hj
    · rw [upd_ne _ _ e]; exact hj
  blk b hb _ := Go.RowKit.Below.heap_alloc _ _ _ hb
  own j b hj := by
    by_cases e : j = i
    · subst e; rw [upd_same] at hj; rcases hob with rfl | rfl
      · cases hj
      · cases hj; exact .inr (Nat.le_refl _)
    · rw [upd_ne _ _ e] at hj; exact .inl ⟨j, hj⟩
theorem HS.alloc (hs : HS c w h ρ O) {i : Id} (hi : h i = none) (o : Obj) (v : Value) (ob : Option Nat) (hob : ob = none ∨ ob = some w.heap.size) (b : Blk)
    (hb : RelB (w.alloc o) (AA c (w.alloc o) (upd O i ob)) (upd ρ i (some v)) (upd O i ob) i b) :
    HS c (w.alloc o) (upd h i (some b)) (upd ρ i (some v)) (upd O i ob) := by
  refine hs.go (Le.alloc hs hi o v ob hob) (fun j b' hj => ?_) (fun j hj => ?_) (fun j k d hj hk => ?_) (fun j d hj => ?_)
  · by_cases e : j = i
    · subst e; rw [upd_same] at hj; cases hj; exact .inr hb
    · rw [upd_ne _ _ e] at hj
      exact .inl ⟨hj, upd_ne _ _ e, fun blk hblk => Go.RowKit.Below.heap_alloc _ _ _ (hs.lt j blk hblk)⟩
  · by_cases e : j = i
    · subst e; rw [upd_same] at hj; cases hj
    · rw [upd_ne _ _ e] at hj; rw [upd_ne _ _ e, upd_ne _ _ e]; exact hs.nodom j hj
  · by_cases e : j = i <;> by_cases e' : k = i
    · rw [e, e']
    · exfalso; rw [upd_ne _ _ e'] at hk; subst e; rw [upd_same] at hj
      rcases hob with rfl | rfl
      · cases hj
      · cases hj; exact Nat.lt_irrefl _ (hs.lt _ _ hk)
    · exfalso; rw [upd_ne _ _ e] at hj; subst e'; rw [upd_same] at hk
      rcases hob with rfl | rfl
      · cases hk
      · cases hk; exact Nat.lt_irrefl _ (hs.lt _ _ hj)
    · rw [upd_ne _ _ e] at hj; rw [upd_ne _ _ e'] at hk; exact hs.inj j k d hj hk
  · by_cases e : j = i
    · subst e; rw [upd_same] at hj; rcases hob with rfl | rfl
      · cases hj
      · cases hj; simp
    · rw [upd_ne _ _ e] at hj; have := hs.lt j d hj; simp; omega

theorem Le.release {i : Id} : Le w ρ O w ρ (upd O i none) where
  os := rfl
  output := rfl
  tape := rfl
  size := Nat.le_refl _
  rho _ _ h := h
  blk _ _ _ := rfl
  own j b hj := by
    by_cases e : j = i
    · subst e; rw [upd_same] at hj; cases hj
    · rw [upd_ne _ _ e] at hj; exact .inl ⟨j, hj⟩
theorem HS.release (hs : HS c w h ρ O) {i : Id} (b : Blk) (hb : RelB w (AA c w (upd O i none)) ρ (upd O i none) i b) : HS c w (upd h i (some b)) ρ (upd O i none) := by
  refine hs.go Le.release (fun j b' hj => ?_) (fun j hj => ?_) (fun j k d hj hk => ?_) (fun j d hj => ?_)
  · by_cases e : j = i
    · subst e; rw [upd_same] at hj; cases hj; exact .inr hb
    · rw [upd_ne _ _ e] at hj; exact .inl ⟨hj, upd_ne _ _ e, fun _ _ => rfl⟩
  · by_cases e : j = i
    · subst e; rw [upd_same] at hj; cases hj
    · rw [upd_ne _ _ e] at hj ⊢; exact hs.nodom j hj
  · by_cases e : j = i
    · subst e; rw [upd_same] at hj; cases hj
    · by_cases e' : k = i
      · subst e'; rw [upd_same] at hk; cases hk
      · rw [upd_ne _ _ e] at hj; rw [upd_ne _ _ e'] at hk; exact hs.inj j k d hj hk
  · by_cases e : j = i
    · subst e; rw [upd_same] at hj; cases hj
    · rw [upd_ne _ _ e] at hj; exact hs.lt j d hj

/-- Shutting a slice. -/
theorem HS.freeze (hs : HS c w h ρ O) {i : Id} {sz : Nat} {b : Bool} {l : List (List T)} (hi : h i = some (.sl false sz b l)) :
    HS c w (upd h i (some (.sl true sz b l))) ρ (upd O i none) := by
  refine hs.release _ ?_
  obtain ⟨v, e1, e2, e3⟩ := hs.blk i _ hi
  refine ⟨v, e1, ?_, fun _ => by simp⟩
  simp only [if_true]
  have hA : ∀ b, AA c w O b → AA c w (upd O i none) b ∧ w.heap[b]? = w.heap[b]? := fun b ha => (Le.release (ρ := ρ) (i := i)).A b ha
  refine SlAt.mono hA (fun blk hq => ?_) e2
  simp only [Bool.false_eq_true, if_false] at hq
  refine ⟨⟨.inr (hs.own i blk hq), hs.lt i blk hq, fun j hj => ?_⟩, rfl⟩
  by_cases e : j = i
  · subst e; rw [upd_same] at hj; cases hj
  · rw [upd_ne _ _ e] at hj; exact e (hs.inj j i blk hj hq)

/-- Shutting a box. -/
theorem HS.freezeBox (hs : HS c w h ρ O) {i : Id} {cs : List AV} {l : List T} (hi : h i = some (.box cs)) (hl : allT cs = some l) :
    HS c w (upd h i (some (.fbox l))) ρ (upd O i none) := by
  refine hs.release _ ?_
  obtain ⟨b, arr, t, e1, e2, e3, e4, e5⟩ := hs.blk i _ hi
  have hA : ∀ b, AA c w O b → AA c w (upd O i none) b ∧ w.heap[b]? = w.heap[b]? := fun b ha => (Le.release (ρ := ρ) (i := i)).A b ha
  have hb : AA c w (upd O i none) b := ⟨.inr (hs.own i b e2), hs.lt i b e2, fun j hj => by
    by_cases e : j = i
    · subst e; rw [upd_same] at hj; cases hj
    · rw [upd_ne _ _ e] at hj; exact e (hs.inj j i b hj e2)⟩
  refine ⟨b, e1, by simp, hb, ?_⟩
  have hT := RelTs.of_allT hl e4
  have key : ∀ (l : List T) (vs : List Value) (off : Nat), RelTs w (AA c w O) l vs → (∀ j v, vs[j]? = some v → w.cell? ⟨b, off + j, none⟩ = some v) → RelAt w (AA c w (upd O i none)) b off l := by
    intro l
    induction l with
    | nil => intro vs off _ _; simp [RelAt]
    | cons x l ih =>
      rintro vs off ⟨v, r, rfl, h1, h2⟩ hv
      simp only [RelAt]
      refine ⟨⟨v, by simpa using hv 0 v rfl, RelT.mono hA x v h1⟩, ih r (off + 1) h2 fun j u hj => ?_⟩
      have := hv (j + 1) u (by simpa using hj)
      rw [show off + 1 + j = off + (j + 1) by omega]; exact this
  refine key l _ 0 hT fun j v hj => ?_
  simp only [World.cell?, e3, Nat.zero_add]
  simpa using hj

theorem Le.write {b : Nat} {i : Id} (hi : O i = some b) (hos : w'.os = w.os) (ho : w'.output = w.output) (ht : w'.tape = w.tape) (hsz : w'.heap.size = w.heap.size) (hk : ∀ k, k ≠ b → w'.heap[k]? = w.heap[k]?) : Le w ρ O w' ρ O where
  os := hos
  output := ho
  tape := ht
  size := Nat.le_of_eq hsz.symm
  rho _ _ h := h
  blk k _ hn := hk k fun e => hn i (e ▸ hi)
  own j b hj := .inl ⟨j, hj⟩
theorem HS.write (hs : HS c w h ρ O) {b : Nat} {i : Id} (hi : O i = some b) (le : Le w ρ O w' ρ O) (hk : ∀ k, k ≠ b → w'.heap[k]? = w.heap[k]?) (x : Blk)
    (hx : RelB w' (AA c w' O) ρ O i x) (hd : h i ≠ none) : HS c w' (upd h i (some x)) ρ O := by
  refine hs.go le (fun j b' hj => ?_) (fun j hj => ?_) hs.inj (fun j d hj => Nat.lt_of_lt_of_le (hs.lt j d hj) le.size)
  · by_cases e : j = i
    · subst e; rw [upd_same] at hj; cases hj; exact .inr hx
    · rw [upd_ne _ _ e] at hj
      exact .inl ⟨hj, rfl, fun blk hblk => hk blk fun e' => e (hs.inj j i b (e' ▸ hblk) hi)⟩
  · by_cases e : j = i
    · subst e; rw [upd_same] at hj; cases hj
    · rw [upd_ne _ _ e] at hj; exact hs.nodom j hj
end

def SS (w : World) (A : Nat → Prop) (ρ : Id → Option Value) (s : Nat → Option Gs × AV) (tmps : Array Value) : Prop :=
  ∀ k, match s k with
    | (none, v) => RelV w A ρ v (tmps.getD k undef)
    | (some g, v) => (tmps.getD g.d undef = .bool g.want ∧ g.c = true ∧ RelV w A ρ v (tmps.getD k undef)) ∨ (tmps.getD g.d undef ≠ .bool g.want ∧ g.c = false ∧ tmps.getD k undef = undef)

section
variable {c : Ctx} {w w' : World} {ρ ρ' : Id → Option Value} {A A' : Nat → Prop} {s : Nat → Option Gs × AV} {tmps : Array Value}

theorem SS.mono (hA : ∀ b, A b → A' b ∧ w'.heap[b]? = w.heap[b]?) (hρ : ∀ i v, ρ i = some v → ρ' i = some v) (hs : SS w A ρ s tmps) : SS w' A' ρ' s tmps := by
  intro k
  have := hs k
  revert this
  split
  · intro this; exact RelV.mono hA hρ _ _ this
  · intro this
    rcases this with ⟨h1, h2, h3⟩ | h1
    · exact .inl ⟨h1, h2, RelV.mono hA hρ _ _ h3⟩
    · exact .inr h1

/-- The guard under which an operation runs. -/
def Runs (tmps : Array Value) : Option Gs → Prop
  | none => True
  | some g => tmps.getD g.d undef = .bool g.want ∧ g.c = true
theorem Runs.cond {g : Option Gs} (h : Runs tmps g) : g.map (·.c) = none ∨ g.map (·.c) = some true := by
  cases g with
  | none => exact .inl rfl
  | some g => exact .inr (by simp [h.2])

theorem relV_const (v : Value) : RelV w A ρ (constAV v) v := by
  have one : ∀ (u : Value) (x : T), ofVal u = some x → RelT w A x u := by
    intro u x e
    cases u <;> simp only [ofVal, Option.some.injEq, reduceCtorEq] at e
    case slice a l cp =>
      split at e <;> simp_all
      subst e; simp [RelT]
    case pointer a => split at e <;> simp_all; subst e; simp [RelT]
    case map a => split at e <;> simp_all; subst e; simp [RelT]
    all_goals (subst e; simp [RelT])
  have all : ∀ (us : List Value) (l : List T), ofVals us = some l → RelTs w A l us := by
    intro us
    induction us with
    | nil => intro l e; simp only [ofVals, Option.some.injEq] at e; subst e; rfl
    | cons u us ih =>
      intro l e
      simp only [ofVals] at e
      cases h1 : ofVal u with
      | none => simp [h1] at e
      | some x =>
        cases h2 : ofVals us with
        | none => simp [h1, h2] at e
        | some l' =>
          simp only [h1, h2, Option.bind_some, Option.some.injEq] at e; subst e
          exact ⟨u, us, rfl, one u x h1, ih l' h2⟩
  unfold constAV
  split
  · rename_i cs
    split
    · rename_i l e
      simp only [RelV]
      have := all cs.toList l e
      refine ⟨cs.toList, by simp, RelVs.of_ts this, ?_⟩
      have key : ∀ (l : List T) (us : List Value), RelTs w A l us → ∀ u ∈ us, u.oneCell' = true ∧ u.cells = #[u] := by
        intro l
        induction l with
        | nil => intro us hu; simp only [RelTs] at hu; subst hu; simp
        | cons x l ih =>
          intro us ⟨v, r, e, h1, h2⟩ u hu
          subst e
          rcases List.mem_cons.1 hu with rfl | hu
          · exact h1.oneCell
          · exact ih r h2 u hu
      exact key l _ this
    · simp [RelV]
  · split
    · rename_i x e
      simp only [RelV]
      exact one _ x e
    · simp [RelV]

theorem SS.get {a : Act} {h : Id → Option Blk} (hs : SS w A ρ s a.tmps) {g : Option Gs} (hr : Runs a.tmps g) (x : Operand) : RelV w A ρ (St.get ⟨s, h⟩ g x) (a.eval x) := by
  cases x with
  | tmp k =>
    simp only [St.get, Act.eval]
    have := hs k
    split at this
    · rename_i v e; simp only [e, sameG, cond_true]; exact this
    · rename_i g' v e; simp only [e]
      cases g with
      | none => simp [sameG, RelV]
      | some g0 =>
        by_cases hsame : sameG (some g') (some g0) = true
        · simp only [hsame, cond_true]
          simp only [sameG, Bool.and_eq_true, beq_iff_eq] at hsame
          rcases this with ⟨_, _, h3⟩ | ⟨h1, _⟩
          · exact h3
          · exfalso; apply h1; rw [hsame.1, hsame.2]; exact hr.1
        · simp only [Bool.not_eq_true] at hsame
          simp [hsame, RelV]
  | const v => exact relV_const v
  | func f => simp only [St.get, Act.eval, RelV]; exact ⟨[], [], rfl, by simp [RelVs], by simp [RelVs]⟩
  | global g => simp [St.get, RelV]

theorem SS.getArm {a : Act} {h : Id → Option Blk} (hs : SS w A ρ s a.tmps) {g : Option Gs} (hr : Runs a.tmps g) (cs x : Operand) (want : Bool) (hc : a.eval cs = .bool want) :
    RelV w A ρ (St.getArm ⟨s, h⟩ g cs want x) (a.eval x) := by
  unfold St.getArm
  split
  · rename_i d k
    simp only [Act.eval] at hc ⊢
    have := hs k
    split
    · rename_i gk v e
      simp only [e] at this
      by_cases h1 : (gk.d == d && gk.want == want) = true
      · simp only [h1, Bool.true_or, cond_true]
        simp only [Bool.and_eq_true, beq_iff_eq] at h1
        rcases this with ⟨_, _, h3⟩ | ⟨h2, _⟩
        · exact h3
        · exfalso; apply h2; rw [h1.1, h1.2]; exact hc
      · simp only [Bool.not_eq_true] at h1
        simp only [h1, Bool.false_or]
        have hg := SS.get (h := h) hs hr (.tmp k)
        simp only [St.get, e, Act.eval] at hg
        exact hg
    · rename_i v e; simp only [e] at this; exact this
  · exact SS.get hs hr _

end
end Go.Aev
