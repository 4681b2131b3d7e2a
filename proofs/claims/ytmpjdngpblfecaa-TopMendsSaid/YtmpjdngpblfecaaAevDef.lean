/-
  The abstract evaluator: Go's code over trees. No program is named here.
-/
import Derived.WalkKit
set_option linter.unusedSimpArgs false
set_option linter.unusedVariables false
namespace Go.Aev
open Go

/-- Immutable data of one cell. -/
inductive T where
  | int (k : IntKind) (n : Int)
  | bool (b : Bool)
  | str (s : ByteArray)
  | lst (sz : Nat) (isNil : Bool) (xs : List (List T))
  | emp (isNil : Bool)
  | ptr (cs : List T)
  | nilp
  | nilm
  | nilf
  | nili
  /-- Some value of one cell. -/
  | any
  deriving Inhabited

inductive Id where
  | c (n : Nat)
  | s (d : Nat) (j : Nat)
  /-- The row named n of block i: never the name of a block. -/
  | g (i : Id) (n : Nat)
  deriving DecidableEq, Inhabited
def Id.real : Id → Bool
  | .g _ _ => false
  | _ => true

/-- What a slot or a cell of the call's own holds. -/
inductive AV where
  | top
  | t (x : T)
  | tup (vs : List AV)
  | agg (vs : List AV)
  | ref (i : Id) (off : Nat)
  | el (i : Id) (sz k off : Nat)
  | own (i : Id)
  | part (i : Id) (sz off len : Nat)
  /-- A slice that lies in block i under the name n; a place in it. -/
  | row (i : Id) (n : Nat)
  | rel (i : Id) (sz n k off : Nat)
  | fn (f : FuncId) (fst caps : List AV)
  deriving Inhabited

/-- What kind of thing lies in a cell. -/
inductive Ck where
  | i (k : IntKind)
  | b
  | s
  | l (sz : Nat)
  | x
  deriving Inhabited, DecidableEq

/-- An element one of whose cells holds a slice of the call's own: its name, its cells (that one is not looked at), is it nil, its elements (none: it is elsewhere). -/
structure Row where
  n : Nat
  cs : List T
  own : Option (Bool × List (List T))
  deriving Inhabited
inductive Blk where
  | box (cs : List AV)
  | sl (fz : Bool) (sz : Nat) (isNil : Bool) (xs : List (List T))
  | fbox (cs : List T)
  /-- A slice of one element, whose cells may hold slices of the call's own. -/
  | arr (cs : List AV)
  /-- A map: are its keys arrays, the kinds of their cells, the kind of its values, its entries. -/
  | mp (ag : Bool) (ks : List Ck) (vk : Ck) (es : List (List T × T))
  /-- A slice of elements of sz cells; cell col of each holds a slice (of rsz cells an element) of the call's own. nx: names from nx on are free. -/
  | rows (b : Bool) (sz col rsz nx : Nat) (es : List Row)
  | dead
  deriving Inhabited

/-! ### Parts of trees -/
def T.int? (k : IntKind) : T → Option Int
  | .int k' n => if k' = k then some n else none
  | _ => none
def T.bool? : T → Option Bool
  | .bool b => some b
  | _ => none
def T.str? : T → Option ByteArray
  | .str s => some s
  | _ => none
def T.ptr? : T → Option (List T)
  | .ptr cs => some cs
  | _ => none
def T.lst? (sz : Nat) : T → Option (Bool × List (List T))
  | .lst sz' b xs => if sz' = sz then some (b, xs) else none
  | .emp b => some (b, [])
  | _ => none

/-! ### Entries of maps -/
def tval : T → Value
  | .int k n => .int k n
  | .bool b => .bool b
  | .str s => .string s
  | _ => .nilIface
def kval (ag : Bool) (cs : List T) : Value := cond ag (.agg (cs.map tval).toArray) ((cs.map tval).headD .nilIface)
def okK : Ck → T → Bool
  | .i k, .int k' _ => decide (k' = k)
  | .b, .bool _ => true
  | .s, .str _ => true
  | _, _ => false
def okKs : List Ck → List T → Bool
  | [], [] => true
  | k :: ks, x :: xs => okK k x && okKs ks xs
  | _, _ => false
def eqT1 : T → T → Bool
  | .int _ a, .int _ b => a == b
  | .bool a, .bool b => a == b
  | .str a, .str b => a == b
  | _, _ => false
def eqTs : List T → List T → Bool
  | [], [] => true
  | x :: xs, y :: ys => eqT1 x y && eqTs xs ys
  | _, _ => false
def findM (key : List T) : List (List T × T) → Option T
  | [] => none
  | (k, v) :: r => cond (eqTs key k) (some v) (findM key r)
def putM (key : List T) (v : T) : List (List T × T) → List (List T × T)
  | [] => [(key, v)]
  | (k, u) :: r => cond (eqTs key k) ((key, v) :: r) ((k, u) :: putM key v r)

/-- Numbers, bools and strings. -/
def T.flat? : T → Option Unit
  | .int _ _ => some ()
  | .bool _ => some ()
  | .str _ => some ()
  | _ => none

/-- A step that may fail where the guard does not hold. -/
def gd {α : Type} [Inhabited α] (c : Option Bool) (m : Option α) : Option α :=
  match m with
  | some a => some a
  | none => match c with
    | none => none
    | some b => cond b none (some default)

/-- The same, with what follows. -/
def gdK {α R : Type} [Inhabited α] (c : Option Bool) (m : Option α) (k : α → Option R) : Option R :=
  match m with
  | some a => k a
  | none => match c with
    | none => none
    | some b => cond b none (k default)

/-- The first n cells, one by one. -/
def takeK {R : Type} (c : Option Bool) : Nat → List T → (List T → Option R) → Option R
  | 0, _, K => K []
  | n + 1, cs, K => gdK c cs.head? fun x => takeK c n cs.tail fun l => K (x :: l)

def ofVal : Value → Option T
  | .int k i => some (.int k i)
  | .bool b => some (.bool b)
  | .string s => some (.str s)
  | .slice none 0 0 => some (.emp true)
  | .pointer none => some .nilp
  | .map none => some .nilm
  | .nilFunc => some .nilf
  | .nilIface => some .nili
  | _ => none
def ofVals : List Value → Option (List T)
  | [] => some []
  | v :: r => (ofVal v).bind fun x => (ofVals r).bind fun l => some (x :: l)

/-! ### Types -/
def isAggT (P : Program) (t : TypeId) : Bool :=
  match P.underlying t with
  | some (.struct _) | some (.array _ _) => true
  | _ => false
def intK (P : Program) (t : TypeId) : Option IntKind :=
  match P.underlying t with
  | some (.int k) => some k
  | _ => none
def tyOk (P : Program) (t : TypeId) : Bool := (P.underlying t).isSome
def fieldT (P : Program) (t : TypeId) (f : Nat) : Option (Nat × TypeId) :=
  match P.underlying t with
  | some (.struct fs) => match fs[f]? with
    | some x => cond (tyOk P x.type) (some (x.offset, x.type)) none
    | none => none
  | _ => none
def elemT (P : Program) (t : TypeId) : Option TypeId :=
  match P.underlying t with
  | some (.slice e) => cond (tyOk P e) (some e) none
  | _ => none
def arrT (P : Program) (t : TypeId) : Option (Nat × TypeId) :=
  match P.underlying t with
  | some (.array n e) => cond (tyOk P e) (some (n, e)) none
  | _ => none
/-- All parts of a struct or an array have sizes. -/
def partsOk (P : Program) (t : TypeId) : Bool :=
  match P.underlying t with
  | some (.struct fs) => fs.toList.all fun f => tyOk P f.type
  | some (.array _ e) => tyOk P e
  | _ => false
def isStrT (P : Program) (t : TypeId) : Bool :=
  match P.underlying t with
  | some .string => true
  | _ => false
/-- The cells of a type's zero. -/
def zeroC (P : Program) (t : TypeId) : Option (List T) :=
  match P.info? t with
  | some i => match i.zero with
    | some v => ofVals v.cells.toList
    | none => none
  | none => none

/-! ### States -/
structure Gs where
  d : Nat
  want : Bool
  c : Bool

structure St where
  t : Nat → Option Gs × AV
  h : Id → Option Blk

abbrev Upd := List (Id × Blk)

def updH (h : Id → Option Blk) : Upd → Id → Option Blk
  | [] => h
  | (i, b) :: us => updH (fun j => if j = i then some b else h j) us

/-- What stood under a guard whose slot is written anew stands no more. -/
def dropG (d : Nat) : Option Gs × AV → Option Gs × AV
  | (some g, v) => cond (g.d == d) (none, .top) (some g, v)
  | (none, v) => (none, v)
def St.put (s : St) (inv : Bool) (d : Option Nat) (g : Option Gs) (v : AV) (us : Upd) : St :=
  { t := match d with
      | some d => fun k => if k = d then (g, v) else cond inv (dropG d (s.t k)) (s.t k)
      | none => s.t
    h := updH s.h us }

def constAV (v : Value) : AV :=
  match v with
  | .agg cs => match ofVals cs.toList with
    | some l => .agg (l.map .t)
    | none => .top
  | v => match ofVal v with
    | some x => .t x
    | none => .top

def sameG : Option Gs → Option Gs → Bool
  | none, _ => true
  | some a, some b => a.d == b.d && a.want == b.want
  | some _, none => false

/-- Where the guard g holds, what stands under it stands. -/
def St.openG (s : St) (g : Gs) : St := { s with t := fun k => cond (sameG (s.t k).1 (some g)) (none, (s.t k).2) (s.t k) }

/-- An operand, read by an operation under the guard g. -/
def St.get (s : St) (g : Option Gs) : Operand → AV
  | .tmp k => match s.t k with
    | (gk, v) => cond (sameG gk g) v .top
  | .const v => constAV v
  | .func f => .fn f [] []
  | .global _ => .top
/-- An arm of a pick: a value that stands under the very guard that the pick asks serves, too. -/
def St.getArm (s : St) (g : Option Gs) (cs : Operand) (want : Bool) (o : Operand) : AV :=
  match cs, o with
  | .tmp d, .tmp k => match s.t k with
    | (some gk, v) => cond ((gk.d == d && gk.want == want) || sameG (some gk) g) v .top
    | (none, v) => v
  | _, o => s.get g o

def AV.t? : AV → Option T
  | .t x => some x
  | _ => none
def allT : List AV → Option (List T)
  | [] => some []
  | .t x :: r => (allT r).bind fun l => some (x :: l)
  | _ :: _ => none
/-- The value as a tree, as it stands: for what only reads. -/
def snapOne (h : Id → Option Blk) : AV → Option T
  | .t x => some x
  | .own i => match h i with
    | some (.sl _ sz b xs) => some (.lst sz b xs)
    | _ => none
  | .part i sz off len => match h i with
    | some (.sl _ sz' b xs) => if sz' = sz then some (.lst sz b ((xs.drop off).take len)) else none
    | _ => none
  | .ref i off => match h i with
    | some (.box cs) => (allT cs).bind fun l => some (.ptr (l.drop off))
    | some (.fbox l) => some (.ptr (l.drop off))
    | _ => none
  | _ => none
def snapAll (h : Id → Option Blk) : List AV → Option (List T)
  | [] => some []
  | v :: r => (snapOne h v).bind fun x => (snapAll h r).bind fun l => some (x :: l)
/-- As snapOne, but maps and slices of rows are told as some value. -/
def snapD (h : Id → Option Blk) : AV → Option T
  | .own i => match h i with
    | some (.sl _ sz b xs) => some (.lst sz b xs)
    | some (.rows ..) => some .any
    | some (.mp ..) => some .any
    | _ => none
  | v => snapOne h v
def snapAllD (h : Id → Option Blk) : List AV → Option (List T)
  | [] => some []
  | v :: r => (snapD h v).bind fun x => (snapAllD h r).bind fun l => some (x :: l)
/-- The cells of a value, as they stand. -/
def snap (h : Id → Option Blk) : AV → Option (List T)
  | .agg vs => snapAll h vs
  | v => (snapOne h v).bind fun x => some [x]
/-- What is shut when a value is handed on for good. -/
def frz1 (h : Id → Option Blk) : AV → Upd
  | .own i => match h i with
    | some (.sl false sz b xs) => [(i, .sl true sz b xs)]
    | _ => []
  | .part i _ _ _ => match h i with
    | some (.sl false sz b xs) => [(i, .sl true sz b xs)]
    | _ => []
  | .ref i _ => match h i with
    | some (.box cs) => match allT cs with
      | some l => [(i, .fbox l)]
      | none => []
    | _ => []
  | _ => []
def frzAll (h : Id → Option Blk) : List AV → Upd
  | [] => []
  | v :: r => frz1 h v ++ frzAll h r
def frz (h : Id → Option Blk) : AV → Upd
  | .agg vs => frzAll h vs
  | v => frz1 h v

/-! ### Arithmetic -/
def arithT {R : Type} (op : BinOp) (k : IntKind) (c : Option Bool) (x y : T) (K : T → Option R) : Option R :=
  gdK c (x.int? k) fun a => gdK c (y.int? k) fun b =>
    match op with
    | .add => K (.int k (k.wrap (a + b)))
    | .sub => K (.int k (k.wrap (a - b)))
    | .mul => K (.int k (k.wrap (a * b)))
    | .quo => gdK c (if b = 0 then none else some ()) fun _ => K (.int k (k.wrap (a.tdiv b)))
    | .rem => gdK c (if b = 0 then none else some ()) fun _ => K (.int k (a.tmod b))
    | .and => K (.int k (k.wrap (BitVec.ofInt k.bits a &&& BitVec.ofInt k.bits b).toNat))
    | .or => K (.int k (k.wrap (BitVec.ofInt k.bits a ||| BitVec.ofInt k.bits b).toNat))
    | .xor => K (.int k (k.wrap (BitVec.ofInt k.bits a ^^^ BitVec.ofInt k.bits b).toNat))
    | .andNot => K (.int k (k.wrap (BitVec.ofInt k.bits a &&& ~~~(BitVec.ofInt k.bits b)).toNat))
    | .lss => K (.bool (decide (a < b)))
    | .leq => K (.bool (decide (a ≤ b)))
    | .gtr => K (.bool (decide (a > b)))
    | .geq => K (.bool (decide (a ≥ b)))
    | _ => none

def shiftT {R : Type} (op : BinOp) (k ky : IntKind) (c : Option Bool) (x y : T) (K : T → Option R) : Option R :=
  gdK c (x.int? k) fun a => gdK c (y.int? ky) fun b =>
    gdK c (if b < 0 then none else some ()) fun _ =>
    match op with
    | .shl => K (.int k (k.wrap (a * 2 ^ (min b.toNat k.bits))))
    | .shr => K (.int k (a.fdiv (2 ^ (min b.toNat k.bits))))
    | _ => none

def strT {R : Type} (op : BinOp) (c : Option Bool) (x y : T) (K : T → Option R) : Option R :=
  gdK c x.str? fun a => gdK c y.str? fun b =>
    match op with
    | .add => gdK c (if a.size + b.size ≤ 4294967296 then some () else none) fun _ => K (.str (a ++ b))
    | .lss => K (.bool (Op.bytesLess a.toList b.toList))
    | .leq => K (.bool (Op.bytesLess a.toList b.toList || a.toList == b.toList))
    | .gtr => K (.bool (!(Op.bytesLess a.toList b.toList || a.toList == b.toList)))
    | .geq => K (.bool (!(Op.bytesLess a.toList b.toList)))
    | _ => none

/-- The types of a value's cells, where values are told apart cell by cell: numbers, bools, strings, and structs and arrays of these. -/
def fsTs (P : Program) (go : TypeId → Option (List TypeId)) : List Field → Nat → Option (List TypeId)
  | [], _ => some []
  | f :: r, off => if f.offset = off ∧ f.name ≠ "_" then
      (go f.type).bind fun l => if P.cellsOf f.type = l.length ∧ 0 < l.length then (fsTs P go r (off + l.length)).bind fun q => some (l ++ q) else none
    else none
def flatTs (P : Program) : Nat → TypeId → Option (List TypeId)
  | 0, _ => none
  | n + 1, t => match P.underlying t with
    | some (.int _) | some .bool | some .string => some [t]
    | some (.struct fs) => if P.stoodInHeld t then none else fsTs P (flatTs P n) fs.toList 0
    | some (.array m e) => (flatTs P n e).bind fun l => if P.cellsOf e = l.length then some (List.replicate m l).flatten else none
    | _ => none

/-- Is the value nil? Known for what lies open. -/
def isNilAV (P : Program) (s : St) (t : TypeId) (x : AV) : Option Bool :=
  match P.underlying t with
  | some (.slice _) => match x with
    | .t (.lst _ b _) => some b
    | .t (.emp b) => some b
    | .own i => match s.h i with
      | some (.sl _ _ b _) => some b
      | _ => none
    | _ => none
  | some (.pointer _) => match x with
    | .t (.ptr _) => some false
    | .t .nilp => some true
    | .ref _ _ => some false
    | .el _ _ _ _ => some false
    | _ => none
  | some (.func ..) => match x with
    | .t .nilf => some true
    | .fn _ _ _ => some false
    | _ => none
  | some (.map ..) => match x with
    | .t .nilm => some true
    | _ => none
  | _ => none
def nilC (P : Program) (t : TypeId) (o : Operand) : Bool :=
  match P.underlying t, o with
  | some (.slice _), .const (.slice none 0 0) => true
  | some (.pointer _), .const (.pointer none) => true
  | some (.func ..), .const .nilFunc => true
  | some (.map ..), .const (.map none) => true
  | _, _ => false

/-- Two cells. -/
def eqC {R : Type} (P : Program) (c : Option Bool) (t : TypeId) (x y : T) (K : Bool → Option R) : Option R :=
  match P.underlying t with
  | some (.int k) => gdK c (x.int? k) fun a => gdK c (y.int? k) fun b => K (a == b)
  | some .bool => gdK c x.bool? fun a => gdK c y.bool? fun b => K (a == b)
  | some .string => gdK c x.str? fun a => gdK c y.str? fun b => K (a == b)
  | _ => none
def eqCs {R : Type} (P : Program) (c : Option Bool) : List TypeId → List T → List T → (Bool → Option R) → Option R
  | [], [], [], K => K true
  | t :: ts, x :: xs, y :: ys, K => eqC P c t x y fun b => eqCs P c ts xs ys fun r => K (b && r)
  | _, _, _, _ => none

def binT {R : Type} (P : Program) (op : BinOp) (t ty : TypeId) (c : Option Bool) (x y : T) (K : T → Option R) : Option R :=
  match op with
  | .shl | .shr => match intK P t, intK P ty with
    | some k, some ky => shiftT op k ky c x y K
    | _, _ => none
  | .eql | .neq => none
  | op => match P.underlying t with
    | some (.int k) => arithT op k c x y K
    | some .string => strT op c x y K
    | _ => none
/-- '==' on two values. -/
def eqAV {R : Type} (P : Program) (c : Option Bool) (t : TypeId) (x y : AV) (K : Bool → Option R) : Option R :=
  match x, y with
  | .t x, .t y => cond (isStrT P t) (gdK c x.str? fun a => gdK c y.str? fun b => K (a.toList == b.toList)) (eqC P c t x y K)
  | .agg xs, .agg ys => cond (P.eqGuardType P.depth t || !isAggT P t) none <| (allT xs).bind fun xs => (allT ys).bind fun ys => (flatTs P 8 t).bind fun ts => eqCs P c ts xs ys K
  | _, _ => none

def unT0 {R : Type} (P : Program) (op : UnOp) (t : TypeId) (c : Option Bool) (x : T) (K : T → Option R) : Option R :=
  match op, P.underlying t with
  | .neg, some (.int k) => gdK c (x.int? k) fun a => K (.int k (k.wrap (0 - a)))
  | .xor, some (.int k) => gdK c (x.int? k) fun a =>
      K (.int k (k.wrap (BitVec.ofInt k.bits (if k.signed then -1 else k.max) ^^^ BitVec.ofInt k.bits a).toNat))
  | .not, some .bool => gdK c x.bool? fun a => K (.bool (!a))
  | _, _ => none

end Go.Aev
