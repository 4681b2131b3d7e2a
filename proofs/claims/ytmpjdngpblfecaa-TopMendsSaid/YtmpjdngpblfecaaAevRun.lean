/-
  The abstract evaluator: operations, regions, the machine. No program is named here.
-/
import Derived.Test.YtmpjdngpblfecaaAevDef
set_option linter.unusedSimpArgs false
set_option linter.unusedVariables false
namespace Go.Aev
open Go

def typK {R : Type} (k : Ck) (c : Option Bool) (x : T) (K : T → Option R) : Option R :=
  match k with
  | .i k => gdK c (x.int? k) fun n => K (.int k n)
  | .b => gdK c x.bool? fun b => K (.bool b)
  | .s => gdK c x.str? fun s => K (.str s)
  | .l sz => gdK c (x.lst? sz) fun p => K (.lst sz p.1 p.2)
  | .x => K x
def typKs {R : Type} (c : Option Bool) : List Ck → List T → (List T → Option R) → Option R
  | [], xs, K => K xs
  | _ :: _, [], K => K []
  | k :: ks, x :: xs, K => typK k c x fun y => typKs c ks xs fun ys => K (y :: ys)
def cellK (P : Program) (t : TypeId) : Ck :=
  match P.underlying t with
  | some (.int k) => .i k
  | some .bool => .b
  | some .string => .s
  | some (.slice e) => .l (P.cellsOf e)
  | _ => .x
def cellKs (P : Program) : Nat → TypeId → List Ck
  | 0, _ => []
  | n + 1, t => match P.underlying t with
    | some (.struct fs) => fs.toList.flatMap fun f => cellKs P n f.type
    | some (.array m e) => (List.replicate m (cellKs P n e)).flatten
    | _ => [cellK P t]
def aggK (P : Program) (t : TypeId) : List Ck :=
  if (cellKs P 8 t).length = P.cellsOf t then cellKs P 8 t else List.replicate (P.cellsOf t) .x

/-- How a result, or a cell of what is handed in to be changed, is told. -/
inductive RSh where
  | f (k : Ck)
  | t (k : Ck)
  | own (sz : Nat)
  | ref (k off : Nat)
  /-- The map that is block k of those handed in. -/
  | same (k : Nat)
  /-- A slice of rows, fresh. -/
  | rows (sz col rsz : Nat)
  /-- A map, fresh. -/
  | mp (ag : Bool) (ks : List Ck) (vk : Ck)
  /-- The address of a fresh box. -/
  | new (l : List RSh)
  /-- An address that nobody asks for. -/
  | no
  | agg (l : List RSh)
  deriving Inhabited
inductive BSh where
  | box (l : List RSh)
  | sl (sz : Nat)
  | mp (ag : Bool) (ks : List Ck) (vk : Ck)
  | dead
  deriving Inhabited
structure Sig where
  res : List RSh
  outs : List BSh
  deriving Inhabited
structure Ann where
  live : FuncId → Nat → Option (List (Nat × Option Nat))
  join : FuncId → Nat → Option (List (Nat × Option Nat))
  sig : FuncId → Option Sig
  bref : FuncId → Option (List Bool) := fun _ => none
  deep : FuncId → Bool := fun _ => false
  bsig : FuncId → Nat → Sig := fun _ _ => ⟨[], []⟩
  /-- Results of appends that never write to what was there (and the empty slices that they append to). -/
  app : Option Nat → Bool := fun _ => false
  /-- Functions that are called by value and may shut what is handed to them, in regions whose order is drawn. -/
  wr : FuncId → Bool := fun _ => false
  /-- May two stores stand unbound in a region whose order is drawn (named by what its first operation makes)? -/
  st : Option Nat → Bool := fun _ => false
  /-- Drawn regions where a store of a slice into rows, or of an integer into a slice, may stand unbound beside each other and beside addresses of elements. -/
  sx : Option Nat → Bool := fun _ => false
  /-- May appends (and calls that shut) stand unbound beside loads and written-out slices in a region whose order is drawn? -/
  ld : Option Nat → Bool := fun _ => false
  /-- 1: results of written-out slices of one element that may hold slices of the call's own; 2: results of make that are slices of such elements. -/
  nst : Option Nat → TypeId → Nat := fun _ _ => 0
  /-- What calls of functions answer that are shown elsewhere (ESound). -/
  ext : FuncId → List AV → List Blk → Option (List T) := fun _ _ _ => none

/-- m: how many blocks were handed in, and how many cells the first of them has. -/
inductive Key where
  | call (f : FuncId)
  | node (f : FuncId) (todo : List Item) (live : List (Nat × Option Nat)) (m : Nat × Nat)

abbrev Orc := Key → List AV → List Blk → Option (List T)

def lim : Nat := 4294967296

/-! ### Names of blocks -/
mutual
def AV.ids : AV → List Id
  | .top => []
  | .t _ => []
  | .tup vs => idsL vs
  | .agg vs => idsL vs
  | .ref i _ => [i]
  | .el i _ _ _ => [i]
  | .own i => [i]
  | .part i _ _ _ => [i]
  | .row i _ => [i]
  | .rel i _ _ _ _ => [i]
  | .fn _ a b => idsL a ++ idsL b
def idsL : List AV → List Id
  | [] => []
  | v :: r => v.ids ++ idsL r
end
mutual
def AV.rn (m : List Id) : AV → AV
  | .top => .top
  | .t x => .t x
  | .tup vs => .tup (rnL m vs)
  | .agg vs => .agg (rnL m vs)
  | .ref i o => .ref (.c (m.idxOf i)) o
  | .el i sz k o => .el (.c (m.idxOf i)) sz k o
  | .own i => .own (.c (m.idxOf i))
  | .part i sz o n => .part (.c (m.idxOf i)) sz o n
  | .row i n => .row (.c (m.idxOf i)) n
  | .rel i sz n k o => .rel (.c (m.idxOf i)) sz n k o
  | .fn f a b => .fn f (rnL m a) (rnL m b)
def rnL (m : List Id) : List AV → List AV
  | [] => []
  | v :: r => v.rn m :: rnL m r
end
def rnB (m : List Id) : Option Blk → Blk
  | some (.box cs) => .box (rnL m cs)
  | some (.arr cs) => .arr (rnL m cs)
  | some b => b
  | none => .dead

/-- All blocks that are reached, in the order in which they are met. -/
def reach (h : Id → Option Blk) : Nat → List Id → List Id → Option (List Id)
  | 0, _, _ => none
  | _ + 1, [], seen => some seen
  | n + 1, i :: todo, seen =>
    cond (seen.contains i) (reach h n todo seen)
      (match h i with
       | some (.box cs) => reach h n (todo ++ idsL cs) (seen ++ [i])
       | some (.arr cs) => reach h n (todo ++ idsL cs) (seen ++ [i])
       | some _ => reach h n todo (seen ++ [i])
       | none => none)

/-! ### Memory -/
def takeAV : Nat → List AV → Option (List AV)
  | 0, _ => some []
  | _ + 1, [] => none
  | n + 1, c :: r => (takeAV n r).bind fun l => some (c :: l)

def repl {α : Type} (off : Nat) (new old : List α) : List α := old.take off ++ new ++ old.drop (off + new.length)

/-! ### Rows -/
def findR (n : Nat) : List Row → Option (Bool × List (List T))
  | [] => none
  | e :: r => if e.n = n then e.own else findR n r
def setR (n : Nat) (p : Option (Bool × List (List T))) : List Row → List Row
  | [] => []
  | e :: r => if e.n = n then { e with own := p } :: r else e :: setR n p r
/-- The row named n of block i. -/
def rowK {R : Type} (h : Id → Option Blk) (c : Option Bool) (i : Id) (n : Nat) (K : Nat → Bool → List (List T) → Option R) : Option R :=
  match h i with
  | some (.rows _ _ _ rsz _ es) => gdK c (findR n es) fun p => K rsz p.1 p.2
  | _ => none
/-- A value that lies in cells. -/
def loadT {R : Type} (P : Program) (t : TypeId) (c : Option Bool) (cs : List T) (K : AV → Option R) : Option R :=
  cond (isAggT P t) (takeK c (P.cellsOf t) cs fun l => typKs c (aggK P t) l fun l => K (.agg (l.map .t))) (gdK c cs.head? fun x => typK (cellK P t) c x fun x => K (.t x))
def loadV {R : Type} (P : Program) (t : TypeId) (cs : List AV) (K : AV → Option R) : Option R :=
  cond (isAggT P t) ((takeAV (P.cellsOf t) cs).bind fun l => K (.agg l)) (cs.head?.bind K)

/-- A value that lies in an element of a slice of rows. -/
def loadR {R : Type} (P : Program) (t : TypeId) (c : Option Bool) (i : Id) (sz col off : Nat) (e : Row) (K : AV → Option R) : Option R :=
  cond (isAggT P t)
    (if off = 0 ∧ P.cellsOf t = sz then takeK c sz e.cs fun l => typKs c ((aggK P t).set col .x) l fun l => K (.agg ((l.map .t).set col (.row i e.n))) else none)
    (if off = col then K (.row i e.n) else gdK c (e.cs.drop off).head? fun x => typK (cellK P t) c x fun x => K (.t x))
def loadAV {R : Type} (P : Program) (s : St) (c : Option Bool) (t : TypeId) (a : AV) (K : AV → Option R) : Option R :=
  cond (tyOk P t) (match a with
  | .ref i off => match s.h i with
    | some (.box cs) => loadV P t (cs.drop off) K
    | some (.fbox l) => loadT P t c (l.drop off) K
    | _ => none
  | .el i sz k off => match s.h i with
    | some (.sl _ sz' _ xs) => if sz' = sz then gdK c xs[k]? fun cs => loadT P t c (cs.drop off) K else none
    | some (.rows _ sz' col _ _ es) => if sz' = sz then gdK c es[k]? fun e => loadR P t c i sz col off e K else none
    | _ => none
  | .rel i sz n k off => rowK s.h c i n fun rsz _ xs => if rsz = sz then gdK c xs[k]? fun cs => loadT P t c (cs.drop off) K else none
  | .t x => gdK c x.ptr? fun cs => loadT P t c cs K
  | _ => none) none

/-- The cells of a value that is stored, boxed or built in. -/
def cellsAV (v : AV) : List AV :=
  match v with
  | .agg vs => vs
  | v => [v]
def cellAV : AV → Bool
  | .agg _ | .tup _ | .top => false
  | _ => true

/-- The elements, a part of one of them written over. -/
def storeIn (k off : Nat) (l : List T) (xs : List (List T)) : Option (List (List T)) :=
  match xs[k]? with
  | some cs => if off + l.length ≤ cs.length then some (xs.set k (repl off l cs)) else none
  | none => none

def storeAV {R : Type} (P : Program) (s : St) (t : TypeId) (a v : AV) (K : Upd → Option R) : Option R :=
  cond (tyOk P t) (match a with
  | .ref i off => match s.h i with
    | some (.box cs) =>
      if (cellsAV v).length = P.cellsOf t ∧ (cellsAV v).all cellAV ∧ off + (cellsAV v).length ≤ cs.length then K [(i, .box (repl off (cellsAV v) cs))] else none
    | _ => none
  | .el i sz k off => match s.h i with
    | some (.sl false sz' b xs) => (snap s.h v).bind fun l =>
        if sz' = sz ∧ l.length = P.cellsOf t ∧ v.ids.contains i = false then
          gdK none (storeIn k off l xs) fun ys => K ((i, .sl false sz b ys) :: frz s.h v) else none
    | some (.rows b sz' col rsz nx es) => match v with
      | .own j => match s.h j with
        | some (.sl false rsz' b' xs) =>
          if sz' = sz ∧ off = col ∧ rsz' = rsz ∧ P.cellsOf t = 1 ∧ isAggT P t = false then
            gdK none es[k]? fun e => K [(j, .dead), (i, .rows b sz col rsz (nx + 1) (es.set k ⟨nx, e.cs, some (b', xs)⟩))] else none
        | _ => none
      | _ => none
    | _ => none
  | .rel i sz n k off => match s.h i with
    | some (.rows b sz' col rsz nx es) => gdK none (findR n es) fun p => (snap s.h v).bind fun l =>
        if rsz = sz ∧ l.length = P.cellsOf t ∧ v.ids.contains i = false then
          gdK none (storeIn k off l p.2) fun ys => K ((i, .rows b sz' col rsz nx (setR n (some (p.1, ys)) es)) :: frz s.h v) else none
    | _ => none
  | _ => none) none

/-- The parts of a struct that is built, laid over its zero. -/
def layAV : List (Nat × List AV) → List AV → Option (List AV)
  | [], z => some z
  | (off, l) :: r, z => if off + l.length ≤ z.length then layAV r (repl off l z) else none

def partOf (P : Program) (t : TypeId) (f : Nat) : Option (Nat × TypeId) :=
  match fieldT P t f with
  | some p => some p
  | none => match arrT P t with
    | some (_, u) => some (f * P.cellsOf u, u)
    | none => none
def partsAV (P : Program) (t : TypeId) (ev : Operand → AV) : List (Nat × Operand) → Option (List (Nat × List AV))
  | [] => some []
  | (f, o) :: r => (partOf P t f).bind fun p =>
      if (cellsAV (ev o)).length = P.cellsOf p.2 ∧ (cellsAV (ev o)).all cellAV then (partsAV P t ev r).bind fun q => some ((p.1, cellsAV (ev o)) :: q) else none

def buildAV (P : Program) (t : TypeId) (ev : Operand → AV) (ps : List (Nat × Operand)) : Option AV :=
  if partsOk P t then
  (zeroC P t).bind fun z => (partsAV P t ev ps).bind fun l => (layAV l (z.map .t)).bind fun cs => some (.agg cs)
  else none

/-- The elements of a slice that is written out: every place is given. -/
def elemsAV (P : Program) (h : Id → Option Blk) (e : TypeId) (ev : Operand → AV) : Nat → List (Nat × Operand) → Option (List (List T) × Upd)
  | _, [] => some ([], [])
  | n, (k, o) :: r => (snap h (ev o)).bind fun l => if k = n ∧ l.length = P.cellsOf e then
        (elemsAV P h e ev (n + 1) r).bind fun q => some (l :: q.1, frz h (ev o) ++ q.2)
    else none

def idxOk {R : Type} (c : Option Bool) (i : Int) (n : Nat) (K : Option R) : Option R := gdK c (if 0 ≤ i ∧ i < n then some () else none) fun _ => K

def indexAddrAV {R : Type} (P : Program) (s : St) (c : Option Bool) (t : TypeId) (x : AV) (i : Int) (K : AV → Option R) : Option R :=
  match elemT P t with
  | some e => match x with
    | .own j => match s.h j with
      | some (.sl _ sz _ xs) => if sz = P.cellsOf e then idxOk c i xs.length (K (.el j sz i.toNat 0)) else none
      | some (.rows _ sz _ _ _ es) => if sz = P.cellsOf e then idxOk c i es.length (K (.el j sz i.toNat 0)) else none
      | _ => none
    | .row j n => rowK s.h c j n fun rsz _ xs => if rsz = P.cellsOf e then idxOk c i xs.length (K (.rel j rsz n i.toNat 0)) else none
    | .part j sz off n => match s.h j with
      | some (.sl _ sz' _ _) => if sz = P.cellsOf e ∧ sz' = sz then idxOk c i n (K (.el j sz (off + i.toNat) 0)) else none
      | _ => none
    | .t y => gdK c (y.lst? (P.cellsOf e)) fun p => idxOk c i p.2.length (gdK c p.2[i.toNat]? fun cs => K (.t (.ptr cs)))
    | _ => none
  | none => match arrT P t with
    | some (n, e) => idxOk c i n (match x with
      | .ref j off => K (.ref j (off + i.toNat * P.cellsOf e))
      | .el j sz k off => K (.el j sz k (off + i.toNat * P.cellsOf e))
      | .t y => gdK c y.ptr? fun cs => K (.t (.ptr (cs.drop (i.toNat * P.cellsOf e))))
      | _ => none)
    | none => none

def fieldAddrAV {R : Type} (P : Program) (c : Option Bool) (t : TypeId) (x : AV) (f : Nat) (K : AV → Option R) : Option R :=
  match fieldT P t f with
  | some (off, u) => if P.cellsOf u = 0 then none else
    match x with
    | .ref j o => K (.ref j (o + off))
    | .el j sz k o => K (.el j sz k (o + off))
    | .rel j sz n k o => K (.rel j sz n k (o + off))
    | .t y => gdK c y.ptr? fun cs => K (.t (.ptr (cs.drop off)))
    | _ => none
  | none => none

def fieldAV {R : Type} (P : Program) (t : TypeId) (x : AV) (f : Nat) (K : AV → Option R) : Option R :=
  match fieldT P t f with
  | some (off, u) => match x with
    | .agg vs => loadV P u (vs.drop off) K
    | _ => none
  | none => none

def lenAV {R : Type} (P : Program) (s : St) (c : Option Bool) (t : TypeId) (x : AV) (K : AV → Option R) : Option R :=
  match P.underlying t with
  | some .string => match x with
    | .t y => gdK c y.str? fun b => K (.t (.int .i64 b.size))
    | _ => none
  | some (.array n _) => K (.t (.int .i64 n))
  | some (.slice e) => match x with
    | .own j => match s.h j with
      | some (.sl _ _ _ xs) => K (.t (.int .i64 xs.length))
      | some (.rows _ _ _ _ _ es) => K (.t (.int .i64 es.length))
      | _ => none
    | .row j n => rowK s.h c j n fun _ _ xs => K (.t (.int .i64 xs.length))
    | .part _ _ _ n => K (.t (.int .i64 n))
    | .t y => gdK c (y.lst? (P.cellsOf e)) fun p => K (.t (.int .i64 p.2.length))
    | _ => none
  | _ => none

/-- A bound of a slice expression, if there is one; in its place stands what is given. -/
def boundAV {R : Type} (s : St) (c : Option Bool) (g : Option Gs) (o : Option Operand) (K : Option Int → Option R) : Option R :=
  match o with
  | none => K none
  | some o => (s.get g o).t?.bind fun x => gdK c (anyInt x) fun n => K (some n)
where
  anyInt : T → Option Int
    | .int _ n => some n
    | _ => none

def inB (lo hi n : Int) : Option Unit := if 0 ≤ lo ∧ lo ≤ hi ∧ hi ≤ n then some () else none
def sub (lo hi : Int) (xs : List (List T)) : List (List T) := (xs.drop lo.toNat).take (hi.toNat - lo.toNat)
def zero3 (lo hi m : Int) : Option Unit := if lo = 0 ∧ hi = 0 ∧ m = 0 then some () else none

/-- A nil slice. -/
def isNilT : T → Bool
  | .emp true => true
  | .lst _ true [] => true
  | _ => false
/-- s[lo:hi] and s[:0:0]. -/
def sliceAV {R : Type} (P : Program) (s : St) (c : Option Bool) (t : TypeId) (x : AV) (lo hi mx : Option Int) (K : AV → Option R) : Option R :=
  match P.underlying t with
  | some .string => match x, mx with
    | .t y, none => gdK c y.str? fun b =>
        gdK c (inB (lo.getD 0) (hi.getD b.size) b.size) fun _ => K (.t (.str (b.extract (lo.getD 0).toNat (hi.getD b.size).toNat)))
    | _, _ => none
  | some (.slice e) => match mx with
    | none => match x with
      | .own j => match s.h j with
        | some (.sl _ sz _ xs) => if sz = P.cellsOf e ∧ tyOk P e = true then
            gdK c (inB (lo.getD 0) (hi.getD xs.length) xs.length) fun _ =>
            K (.part j sz (lo.getD 0).toNat ((hi.getD xs.length).toNat - (lo.getD 0).toNat)) else none
        | _ => none
      | .part j sz off n => match s.h j with
        | some (.sl _ sz' _ _) => if sz = P.cellsOf e ∧ sz' = sz ∧ tyOk P e = true then
            gdK c (inB (lo.getD 0) (hi.getD n) n) fun _ =>
            K (.part j sz (off + (lo.getD 0).toNat) ((hi.getD n).toNat - (lo.getD 0).toNat)) else none
        | _ => none
      | .t y => if tyOk P e = true then gdK c (y.lst? (P.cellsOf e)) fun p =>
          gdK c (inB (lo.getD 0) (hi.getD p.2.length) p.2.length) fun _ =>
          K (.t (.lst (P.cellsOf e) p.1 (sub (lo.getD 0) (hi.getD p.2.length) p.2))) else none
      | _ => none
    | some m => match x with
      | .t y => if tyOk P e = true then gdK c (y.lst? (P.cellsOf e)) fun p => gdK c (zero3 (lo.getD 0) (hi.getD 1) m) fun _ => K (.t (.emp p.1)) else none
      | .own j => match s.h j with
        | some (.sl _ _ b _) => if tyOk P e = false then none else gdK c (zero3 (lo.getD 0) (hi.getD 1) m) fun _ => K (.t (.emp b))
        | _ => none
      | _ => none
  | _ => none

def mkOk (n m : Int) : Option Unit := if 0 ≤ n ∧ n ≤ m ∧ m ≤ lim then some () else none

/-- What append reads. -/
def appended {R : Type} (P : Program) (s : St) (t : TypeId) (sz : Nat) (zs : List T) (y : AV) (K : List (List T) → Option R) : Option R :=
  match P.underlying t with
  | some (.slice _) => (snapOne s.h y).bind fun x => gdK none (x.lst? sz) fun p => K p.2
  | some .string => if sz = 1 then y.t?.bind fun x => gdK none x.str? fun b => K (b.data.toList.map fun u => [.int .u8 u.toNat]) else none
  | some (.int _) => y.t?.bind fun x => gdK none (x.int? .i64) fun n => gdK none (mkOk n n) fun _ => K (List.replicate n.toNat zs)
  | _ => none

/-- Few enough elements of so many bytes each. -/
def fits (bs n : Nat) : Prop := n ≤ lim ∨ (0 < bs ∧ n * bs ≤ 140737488355328)
instance (bs n : Nat) : Decidable (fits bs n) := inferInstanceAs (Decidable (_ ∨ _))
def small (bs n : Nat) : Option Unit := if fits bs n then some () else none

/-- An empty slice that is no block of the call's own: is it nil? -/
def nilEmp : T → Option Bool
  | .emp b => some b
  | .lst _ b xs => cond (b && xs.isEmpty) (some true) none
  | _ => none
/-- A slice of rows; a written-out slice of one element. -/
def rowsOf (h : Id → Option Blk) : AV → Option (Id × Nat × Nat × Nat × Nat × List Row)
  | .own i => match h i with
    | some (.rows _ sz col rsz nx es) => some (i, sz, col, rsz, nx, es)
    | _ => none
  | _ => none
def oneOf (h : Id → Option Blk) : AV → Option (Id × List AV)
  | .own j => match h j with
    | some (.arr cs) => some (j, cs)
    | _ => none
  | _ => none
/-- An element is appended to a slice of rows: its slice goes over. -/
def appendR {R : Type} (P : Program) (s : St) (d : Nat) (e : TypeId) (i : Id) (sz col rsz nx : Nat) (es : List Row) (j : Id) (cs : List AV) (K : AV → Upd → Option R) : Option R :=
  if sz = P.cellsOf e ∧ cs.length = sz ∧ col < sz ∧ i ≠ j then
    (allT (cs.set col (.t .nilp))).bind fun l => match cs[col]? with
      | some (.own j2) => match s.h j2 with
        | some (.sl false rsz' b' xs) => if rsz' = rsz then
            gdK none (small (P.bytesOf e) (es.length + 1)) fun _ =>
            K (.own (.s d 0)) [(i, .dead), (j, .dead), (j2, .dead), (.s d 0, .rows false sz col rsz (nx + 1) (es ++ [⟨nx, l, some (b', xs)⟩]))] else none
        | _ => none
      | some (.row a n) => match s.h a with
        | some (.rows b2 sz2 col2 rsz2 nx2 es2) => if rsz2 = rsz ∧ a ≠ i then
            gdK none (findR n es2) fun p => gdK none (small (P.bytesOf e) (es.length + 1)) fun _ =>
            K (.own (.s d 0)) [(i, .dead), (j, .dead), (a, .rows b2 sz2 col2 rsz2 nx2 (setR n none es2)), (.s d 0, .rows false sz col rsz (nx + 1) (es ++ [⟨nx, l, some p⟩]))] else none
        | _ => none
      | _ => none
  else none
def appendAV {R : Type} (P : Program) (s : St) (d : Nat) (rw : Bool) (t ty : TypeId) (x y : AV) (K : AV → Upd → Option R) : Option R :=
  (elemT P t).bind fun e => (zeroC P e).bind fun zs =>
  if P.bytesOf e ≤ 8192 ∧ zs.length = P.cellsOf e then
  match cond rw (rowsOf s.h x) none, cond rw (oneOf s.h y) none with
  | some (i, sz, col, rsz, nx, es), some (j, cs) => match P.underlying ty with
    | some (.slice _) => appendR P s d e i sz col rsz nx es j cs K
    | _ => none
  | _, _ =>
  appended P s ty (P.cellsOf e) zs y fun ys =>
  match x with
  | .own i => match s.h i with
    | some (.sl false sz' b xs) => if sz' = P.cellsOf e then
        gdK none (small (P.bytesOf e) (xs.length + ys.length)) fun _ =>
        K (.own (.s d 0)) [(.s d 0, .sl false (P.cellsOf e) (b && ys.isEmpty) (xs ++ ys)), (i, .dead)] else none
    | _ => none
  | .part i sz'' off n => match s.h i with
    | some (.sl false sz' b xs) => if sz' = P.cellsOf e ∧ sz'' = P.cellsOf e then
        gdK none (small (P.bytesOf e) (n + ys.length)) fun _ =>
        K (.own (.s d 0)) [(.s d 0, .sl false (P.cellsOf e) (b && ys.isEmpty) ((xs.drop off).take n ++ ys)), (i, .dead)] else none
    | _ => none
  | .t z => (nilEmp z).bind fun b => gdK none (small (P.bytesOf e) ys.length) fun _ =>
        K (.own (.s d 0)) [(.s d 0, .sl false (P.cellsOf e) (b && ys.isEmpty) ys)]
  | _ => none
  else none

/-- n elements, each a nil slice. -/
def nilRows (n : Nat) : List Row := (List.range n).map fun k => ⟨k, [.nilp], some (true, [])⟩
def makeAV {R : Type} (P : Program) (d : Nat) (t : TypeId) (nst : Nat) (n m : T) (K : AV → Upd → Option R) : Option R :=
  (elemT P t).bind fun e => (zeroC P e).bind fun zs =>
  gdK none (n.int? .i64) fun n => gdK none (m.int? .i64) fun m =>
  if P.bytesOf e ≤ 8192 ∧ zs.length = P.cellsOf e then
  gdK none (mkOk n m) fun _ =>
    cond (nst == 2) (match P.underlying e, zs with
      | some (.slice u), [.emp true] => if P.cellsOf e = 1 then K (.own (.s d 0)) [(.s d 0, .rows false 1 0 (P.cellsOf u) n.toNat (nilRows n.toNat))] else none
      | _, _ => none)
      (K (.own (.s d 0)) [(.s d 0, .sl false (P.cellsOf e) false (List.replicate n.toNat zs))])
  else none

def mm (isMax : Bool) (a b : Int) : Int := cond isMax (if b > a then b else a) (if b < a then b else a)
def minT {R : Type} (k : IntKind) (c : Option Bool) (isMax : Bool) : Int → List T → (T → Option R) → Option R
  | a, [], K => K (.int k a)
  | a, y :: r, K => gdK c (y.int? k) fun b => minT k c isMax (mm isMax a b) r K

def convT {R : Type} (P : Program) (c : Option Bool) (src dst : TypeId) (x : T) (K : T → Option R) : Option R :=
  match P.underlying src, P.underlying dst with
  | some (.int k), some (.int k') => gdK c (x.int? k) fun n => K (.int k' (k'.wrap n))
  | some .string, some .string => gdK c x.str? fun b => K (.str b)
  | _, _ => none

/-- A slice of bytes, as a string. -/
def bytesOf : List (List T) → Option (List UInt8)
  | [] => some []
  | cs :: r => cs.head?.bind fun x => (x.int? .u8).bind fun n => (bytesOf r).bind fun l => some (UInt8.ofNat n.toNat :: l)

/-! ### Maps -/
def scal : Ck → Bool
  | .i _ | .b | .s => true
  | _ => false
def mapT (P : Program) (t : TypeId) : Option (TypeId × TypeId) :=
  match P.underlying t with
  | some (.map k e) => cond (tyOk P k && tyOk P e) (some (k, e)) none
  | _ => none
def zeroT (P : Program) (t : TypeId) : Option T :=
  match P.info? t with
  | some i => match i.zero with
    | some v => ofVal v
    | none => none
  | none => none
/-- How keys are told: is it an array, and its cells. -/
def keyKs (P : Program) (k : TypeId) : Option (Bool × List Ck) :=
  match P.underlying k with
  | some (.int i) => some (false, [.i i])
  | some .string => some (false, [.s])
  | some (.array n e) => match P.underlying e with
    | some (.int i) => if P.cellsOf e = 1 ∧ n ≤ 8 then some (true, List.replicate n (.i i)) else none
    | _ => none
  | _ => none
def keyC {R : Type} (P : Program) (k : TypeId) (c : Option Bool) (v : AV) (K : Bool → List Ck → List T → Option R) : Option R :=
  (keyKs P k).bind fun q => match q.1, v with
    | false, .t x => typKs c q.2 [x] fun cs => K false q.2 cs
    | true, .agg vs => (allT vs).bind fun l => if l.length = q.2.length then typKs c q.2 l fun cs => K true q.2 cs else none
    | _, _ => none
def lookupAV {R : Type} (P : Program) (s : St) (c : Option Bool) (t : TypeId) (x key : AV) (ok : Bool) (K : AV → Option R) : Option R :=
  (mapT P t).bind fun q => (zeroT P q.2).bind fun z => keyC P q.1 c key fun ag ks cs => match x with
    | .own i => match s.h i with
      | some (.mp ag' ks' vk es) => if ag' = ag ∧ ks' = ks ∧ cellK P q.2 = vk ∧ scal vk = true ∧ isAggT P q.2 = false then
          typK vk c ((findM cs es).getD z) fun v => K (cond ok (.tup [.t v, .t (.bool (findM cs es).isSome)]) (.t v)) else none
      | _ => none
    | _ => none
def makeMapAV {R : Type} (P : Program) (d : Nat) (t : TypeId) (K : AV → Upd → Option R) : Option R :=
  (mapT P t).bind fun q => (keyKs P q.1).bind fun p => if scal (cellK P q.2) = true then K (.own (.s d 0)) [(.s d 0, .mp p.1 p.2 (cellK P q.2) [])] else none
def putAV {R : Type} (P : Program) (s : St) (t : TypeId) (x key v : AV) (K : Upd → Option R) : Option R :=
  (mapT P t).bind fun q => keyC P q.1 none key fun ag ks cs => match x with
    | .own i => match s.h i with
      | some (.mp ag' ks' vk es) => if ag' = ag ∧ ks' = ks ∧ cellK P q.2 = vk ∧ scal vk = true then
          v.t?.bind fun v => typK vk none v fun v => K [(i, .mp ag ks vk (putM cs v es))] else none
      | _ => none
    | _ => none

def delM (key : List T) : List (List T × T) → List (List T × T)
  | [] => []
  | p :: r => cond (eqTs key p.1) r (p :: delM key r)
def delAV {R : Type} (P : Program) (s : St) (t : TypeId) (x key : AV) (K : Upd → Option R) : Option R :=
  (mapT P t).bind fun q => keyC P q.1 none key fun ag ks cs => match x with
    | .own i => match s.h i with
      | some (.mp ag' ks' vk es) => if ag' = ag ∧ ks' = ks then K [(i, .mp ag ks vk (delM cs es))] else none
      | _ => none
    | _ => none

/-! ### Calls -/
/-- An argument that is handed in to be read alone. -/
def arg1 (fl dp : Bool) (h : Id → Option Blk) : AV → Option (T × Upd)
  | .ref i off => cond fl (match h i with
    | some (.box cs) => (cond dp (snapAllD h (cs.drop off)) (allT (cs.drop off))).bind fun l => some (.ptr l, [])
    | some (.fbox l) => some (.ptr (l.drop off), [])
    | _ => none) ((snapOne h (.ref i off)).bind fun x => some (x, frz1 h (.ref i off)))
  | v => (snapOne h v).bind fun x => some (x, cond fl [] (frz1 h v))
def argL (fl dp : Bool) (h : Id → Option Blk) : List AV → Option (List T × Upd)
  | [] => some ([], [])
  | v :: r => (arg1 fl dp h v).bind fun p => (argL fl dp h r).bind fun q => some (p.1 :: q.1, p.2 ++ q.2)
def argV (fl dp : Bool) (h : Id → Option Blk) : AV → Option (AV × Upd)
  | .fn f a b => (argL fl dp h a).bind fun x => (argL fl dp h b).bind fun y => some (.fn f (x.1.map .t) (y.1.map .t), x.2 ++ y.2)
  | .agg vs => (argL fl dp h vs).bind fun x => some (.agg (x.1.map .t), x.2)
  | v => (arg1 fl dp h v).bind fun p => some (.t p.1, p.2)
def argVs (fl dp : Bool) (h : Id → Option Blk) : List AV → Option (List AV × Upd)
  | [] => some ([], [])
  | v :: r => (argV fl dp h v).bind fun p => (argVs fl dp h r).bind fun q => some (p.1 :: q.1, p.2 ++ q.2)

/-- A type whose values hold no address. -/
def flatTy (P : Program) : Nat → TypeId → Bool
  | 0, _ => false
  | n + 1, t => match P.underlying t with
    | some (.int _) | some .bool | some .string => true
    | some (.struct fs) => fs.toList.all fun f => flatTy P n f.type
    | some (.array _ e) => flatTy P n e
    | _ => false

/-- A slice of rows, told as a tree. -/
def rowV (e : Row) : T := match e.own with
  | some p => .lst 0 p.1 p.2
  | none => .nilp
def encRw (b : Bool) (es : List Row) : T := .lst 2 b (es.map fun e => [.ptr e.cs, rowV e])
def decRows : Nat → List (List T) → Option (List Row)
  | _, [] => some []
  | n, [.ptr cs, .lst _ b xs] :: r => (decRows (n + 1) r).bind fun l => some (⟨n, cs, some (b, xs)⟩ :: l)
  | _, _ => none
def decRw : T → Option (Bool × List Row)
  | .lst _ b xs => (decRows 0 xs).bind fun l => some (b, l)
  | _ => none
def allOwn (es : List Row) : Bool := es.all fun e => e.own.isSome
def isRowsSh : RSh → Bool
  | .rows _ _ _ => true
  | _ => false
/-- The entries of a map, told as a tree. -/
def encE (es : List (List T × T)) : T := .lst 2 false (es.map fun p => [.ptr p.1, p.2])
def decEs : List (List T) → Option (List (List T × T))
  | [] => some []
  | [.ptr k, v] :: r => (decEs r).bind fun l => some ((k, v) :: l)
  | _ => none
def decE : T → Option (List (List T × T))
  | .lst _ _ xs => decEs xs
  | _ => none
/-- What a call hands back, laid into the caller's state; new blocks are named after the call's slot. -/
def decR {R : Type} (ids : List Id) (d : Nat) (c : Option Bool) (j : Nat) (r : RSh) (x : T) (K : AV → Upd → Nat → Option R) : Option R :=
  match r with
  | .f k => typK k c x fun x => K (.t x) [] j
  | .t k => typK k c x fun x => K (.t x) [] j
  | .own sz => match c with
    | none => gdK none (x.lst? sz) fun p => K (.own (.s d j)) [(.s d j, .sl false sz p.1 p.2)] (j + 1)
    | some _ => none
  | .ref k off => match ids[k]? with
    | some i => K (.ref i off) [] j
    | none => none
  | .same k => match ids[k]? with
    | some i => K (.own i) [] j
    | none => none
  | .rows sz col rsz => match c with
    | none => gdK none (decRw x) fun p => K (.own (.s d j)) [(.s d j, .rows p.1 sz col rsz p.2.length p.2)] (j + 1)
    | some _ => none
  | .mp ag ks vk => match c with
    | none => gdK none (decE x) fun es => K (.own (.s d j)) [(.s d j, .mp ag ks vk es)] (j + 1)
    | some _ => none
  | .no => K .top [] j
  | .agg _ => none
  | .new _ => none
def decL1 {R : Type} (ids : List Id) (d : Nat) (c : Option Bool) : Nat → List RSh → List T → (List AV → Upd → Nat → Option R) → Option R
  | j, [], _, K => K [] [] j
  | j, r :: rs, xs, K => gdK c xs.head? fun x => decR ids d c j r x fun v u j => decL1 ids d c j rs xs.tail fun vs us j => K (v :: vs) (u ++ us) j
def RSh.size : RSh → Nat
  | .agg l => l.length
  | .new l => l.length
  | _ => 1
def decL {R : Type} (ids : List Id) (d : Nat) (c : Option Bool) : Nat → List RSh → List T → (List AV → Upd → Nat → Option R) → Option R
  | j, [], _, K => K [] [] j
  | j, r :: rs, xs, K => match r with
    | .agg l => decL1 ids d c j l xs fun v u j => decL ids d c j rs (xs.drop l.length) fun vs us j => K (AV.agg v :: vs) (u ++ us) j
    | .new l => match c with
      | none => decL1 ids d c j l xs fun v u j => decL ids d c (j + 1) rs (xs.drop l.length) fun vs us j' => K (AV.ref (.s d j) 0 :: vs) (u ++ [(.s d j, .box v)] ++ us) j'
      | some _ => none
    | r => gdK c xs.head? fun x => decR ids d c j r x fun v u j => decL ids d c j rs xs.tail fun vs us j => K (v :: vs) (u ++ us) j
def sizes : List RSh → Nat
  | [] => 0
  | r :: rs => r.size + sizes rs
/-- What the blocks that were handed in are, behind the call. -/
def decOuts {R : Type} (all : List Id) (d : Nat) : Nat → List Id → List BSh → List T → (Upd → Option R) → Option R
  | j, i :: is, .box l :: r, xs, K => decL1 all d none j l xs fun v u j => decOuts all d j is r (xs.drop l.length) fun q => K (u ++ (i, .box v) :: q)
  | j, i :: is, .sl sz :: r, xs, K => gdK none (xs.head?.bind (T.lst? sz)) fun p => decOuts all d j is r xs.tail fun q => K ((i, .sl false sz p.1 p.2) :: q)
  | j, i :: is, .mp ag ks vk :: r, xs, K => gdK none (xs.head?.bind decE) fun es => decOuts all d j is r xs.tail fun q => K ((i, .mp ag ks vk es) :: q)
  | j, _ :: is, .dead :: r, xs, K => decOuts all d j is r xs K
  | _, [], [], _, K => K []
  | _, _, _, _, _ => none

def resAV : List AV → AV
  | [v] => v
  | vs => .tup vs

def defSh (P : Program) (t : TypeId) : RSh := cond (isAggT P t) (.agg ((aggK P t).map fun k => cond (flatTy P 8 t) (.f k) (.t k))) (cond (flatTy P 8 t) (.f (cellK P t)) (.t (cellK P t)))
def flatSh : RSh → Bool
  | .f _ => true
  | .agg l => l.all fun r => match r with
    | .f _ => true
    | _ => false
  | _ => false
def resSh (P : Program) (A : Ann) (f : FuncId) (n : Nat) (fn : Func) : List RSh :=
  match A.bref f with
  | some _ => (A.bsig f n).res
  | none => match A.sig f with
    | some sg => sg.res
    | none => fn.resultTypes.toList.map (defSh P)
def outSh (A : Ann) (f : FuncId) (n : Nat) : List BSh :=
  match A.bref f with
  | some _ => (A.bsig f n).outs
  | none => []
/-- A cell that holds a slice of the call's own. -/
def ownAV : AV → Bool
  | .own _ => true
  | .part _ _ _ _ => true
  | _ => false
/-- The shape of the first block that is handed in: its cells, and (in thousands) those that hold own slices. -/
def disc : Option Blk → Nat
  | some (.box cs) => cs.length + 1000 * (cs.filter ownAV).length
  | _ => 0

/-- A callee is asked where the guard holds. -/
def askO (c : Option Bool) (m : Option (List T)) : Option (List T) :=
  match c with
  | none => m
  | some b => cond b m (some [])

def typV {R : Type} (P : Program) (c : Option Bool) (t : TypeId) (v : AV) (K : AV → Option R) : Option R :=
  match v with
  | .t x => typK (cellK P t) c x fun y => K (.t y)
  | .agg vs => match allT vs with
    | some l => typKs c (aggK P t) l fun l => K (.agg (l.map .t))
    | none => K (.agg vs)
  | v => K v
def typVs {R : Type} (P : Program) (c : Option Bool) : List TypeId → List AV → (List AV → Option R) → Option R
  | [], vs, K => K vs
  | _ :: _, [], K => K []
  | t :: ts, v :: vs, K => typV P c t v fun u => typVs P c ts vs fun us => K (u :: us)

/-- The blocks that are handed in by the arguments that are so marked. -/
def byRef : List Bool → List AV → List Id
  | b :: fl, v :: vs => cond b v.ids [] ++ byRef fl vs
  | _, _ => []
def argR (h : Id → Option Blk) (keep : List Id) (b : Bool) (v : AV) : Option (AV × Upd) :=
  cond (b || (!v.ids.isEmpty && v.ids.all keep.contains)) (some (v, [])) (argV false false h v)
def argRs (h : Id → Option Blk) (keep : List Id) : List Bool → List AV → Option (List AV × Upd)
  | _, [] => some ([], [])
  | fl, v :: r => (argR h keep (fl.headD false) v).bind fun p => (argRs h keep fl.tail r).bind fun q => some (p.1 :: q.1, p.2 ++ q.2)

/-- The code of a slice of rows, among sizes. -/
def rcode (sz col rsz : Nat) : Nat := 100000 + 1000 * sz + 100 * col + rsz
/-- A cell of a box is made to hold a slice of rows. -/
def rowCell (h : Id → Option Blk) (new i : Id) (k sz col rsz : Nat) : Option Upd :=
  match h i with
  | some (.box cs) => match cs[k]? with
    | some (.own _) => some []
    | some (.t (.emp b)) => cond (h new).isNone (some [(new, .rows b sz col rsz 0 []), (i, .box (cs.set k (.own new)))]) none
    | some (.t (.lst _ true [])) => cond (h new).isNone (some [(new, .rows true sz col rsz 0 []), (i, .box (cs.set k (.own new)))]) none
    | _ => none
  | _ => none
/-- A cell of a box is made to hold a slice of the call's own. -/
def ownCell (h : Id → Option Blk) (new i : Id) (k sz : Nat) : Option Upd :=
  cond (Nat.ble 100000 sz) (rowCell h new i k (sz % 100000 / 1000) (sz % 1000 / 100) (sz % 100)) <|
  match h i with
  | some (.box cs) => match cs[k]? with
    | some (.own _) => some []
    | some (.t (.emp b)) => cond (h new).isNone (some [(new, .sl false sz b []), (i, .box (cs.set k (.own new)))]) none
    | some (.t (.lst _ true [])) => cond (h new).isNone (some [(new, .sl false sz true []), (i, .box (cs.set k (.own new)))]) none
    | some (.part j sz' 0 n) => match h j with
      | some (.sl false sz'' b xs) => if sz'' = sz ∧ sz' = sz ∧ j ≠ i then cond (h new).isNone (some [(j, .dead), (new, .sl false sz b (xs.take n)), (i, .box (cs.set k (.own new)))]) none else none
      | _ => none
    | _ => none
  | _ => none
def prep (nm : Nat) : Nat → (Id → Option Blk) → List (Id × Nat × Nat) → Option Upd
  | _, _, [] => some []
  | j, h, (i, k, sz) :: r => (ownCell h (.s nm j) i k sz).bind fun us => (prep nm (j + 1) (updH h us) r).bind fun vs => some (us ++ vs)
def dedup : List Id → List Id → List Id
  | [], _ => []
  | i :: r, seen => cond (seen.contains i) (dedup r seen) (i :: dedup r (i :: seen))
def reqB (i : Id) : Nat → List RSh → List (Id × Nat × Nat)
  | _, [] => []
  | k, .own sz :: r => (i, k, sz) :: reqB i (k + 1) r
  | k, .rows sz col rsz :: r => (i, k, rcode sz col rsz) :: reqB i (k + 1) r
  | k, _ :: r => reqB i (k + 1) r
def reqs : List Id → List BSh → List (Id × Nat × Nat)
  | i :: is, .box l :: r => reqB i 0 l ++ reqs is r
  | _ :: is, _ :: r => reqs is r
  | _, _ => []
def deads (l : List Id) : Upd := l.map fun i => (i, .dead)
def notOf (d : Nat) (l : List Id) : Bool := l.all fun i => match i with
  | .s d' _ => !(d' == d)
  | .c _ => true
  | .g _ _ => false

def callAV {R : Type} (P : Program) (A : Ann) (O : Orc) (s : St) (d : Nat) (c : Option Bool) (f : FuncId) (args : List AV) (K : AV → Upd → Option R) : Option R :=
  match P.funcs[f]? with
  | none => none
  | some fn =>
    match A.bref f with
    | none => (argVs ((resSh P A f 0 fn).all flatSh) (A.deep f) s.h args).bind fun p =>
      typVs P c fn.params.toList p.1 fun q => gdK none (askO c (O (.call f) q [])) fun xs => decL [] d c 0 (resSh P A f 0 fn) xs fun vs u _ => K (resAV vs) (p.2 ++ u)
    | some fl => match c with
      | some _ => none
      | none => (argRs s.h (byRef fl args) fl args).bind fun p =>
        (prep (2000000 + d) 0 (updH s.h p.2) (reqs (dedup (idsL p.1) []) (outSh A f (disc ((idsL p.1).head?.bind (updH s.h p.2)))))).bind fun us =>
        (reach (updH (updH s.h p.2) us) 1000 (idsL p.1) []).bind fun seen =>
        cond (notOf d seen && Nat.beq (disc (seen.map fun i => rnB seen (updH (updH s.h p.2) us i)).head?) (disc ((idsL p.1).head?.bind (updH s.h p.2)))) (typVs P none fn.params.toList (rnL seen p.1) fun q =>
          gdK none (O (.call f) q (seen.map fun i => rnB seen (updH (updH s.h p.2) us i))) fun xs =>
          decL seen d none 0 (resSh P A f (disc ((idsL p.1).head?.bind (updH s.h p.2))) fn) xs fun vs u j =>
          decOuts seen d j seen (outSh A f (disc ((idsL p.1).head?.bind (updH s.h p.2)))) (xs.drop (sizes (resSh P A f (disc ((idsL p.1).head?.bind (updH s.h p.2))) fn))) fun q =>
          K (resAV vs) (p.2 ++ us ++ deads seen ++ u ++ q)) none

/-! ### A row is lent to a callee: as an own slice, until the call is over -/
def rowArg : List AV → Option (List AV × Id × Nat × List AV)
  | [] => none
  | .row i n :: r => some ([], i, n, r)
  | v :: r => (rowArg r).bind fun q => some (v :: q.1, q.2.1, q.2.2.1, q.2.2.2)
/-- Is the row named n elsewhere? -/
def noneR (n : Nat) : List Row → Option Unit
  | [] => none
  | e :: r => if e.n = n then (match e.own with | none => some () | some _ => none) else noneR n r
def backL {R : Type} (h : Id → Option Blk) (i new : Id) (n rsz : Nat) (K : Upd → Option R) : Option R :=
  match h i, h new with
  | some (.rows b sz col rsz' nx es), some (.sl false rsz'' b' xs) => if rsz' = rsz ∧ rsz'' = rsz then
      gdK none (noneR n es) fun _ => K [(i, .rows b sz col rsz nx (setR n (some (b', xs)) es)), (new, .dead)] else none
  | _, _ => none
def lendOf : Operand → Bool
  | .func _ => false
  | _ => true
def callL {R : Type} (lend : Bool) (P : Program) (A : Ann) (O : Orc) (s : St) (d : Nat) (c : Option Bool) (f : FuncId) (args : List AV) (K : AV → Upd → Option R) : Option R :=
  match cond lend (rowArg args) none with
  | none => callAV P A O s d c f args K
  | some (l1, i, n, l2) => match c, s.h i with
    | none, some (.rows b sz col rsz nx es) => gdK none (findR n es) fun p =>
        cond (s.h (.s (2500000 + d) 0)).isNone
          (callAV P A O { t := s.t, h := updH s.h [(i, .rows b sz col rsz nx (setR n none es)), (.s (2500000 + d) 0, .sl false rsz p.1 p.2)] } d none f (l1 ++ .own (.s (2500000 + d) 0) :: l2) fun v us =>
            backL (updH s.h ([(i, .rows b sz col rsz nx (setR n none es)), (.s (2500000 + d) 0, .sl false rsz p.1 p.2)] ++ us)) i (.s (2500000 + d) 0) n rsz fun post =>
              K v ([(i, .rows b sz col rsz nx (setR n none es)), (.s (2500000 + d) 0, .sl false rsz p.1 p.2)] ++ us ++ post)) none
    | _, _ => none

theorem callL_false {R : Type} (P : Program) (A : Ann) (O : Orc) (s : St) (d : Nat) (c : Option Bool) (f : FuncId) (args : List AV) (K : AV → Upd → Option R) : callL false P A O s d c f args K = callAV P A O s d c f args K := rfl
/-! ### One operation -/
def gAnd (c : Option Bool) (b : Bool) : Option Bool := some (match c with
  | none => b
  | some a => a && b)
def int1 {R : Type} (c : Option Bool) (v : AV) (K : Int → Option R) : Option R :=
  v.t?.bind fun x => gdK c (boundAV.anyInt x) K

def aop {R : Type} (P : Program) (A : Ann) (O : Orc) (g : Option Gs) (o : Oper) (s : St) (K : AV → Upd → Option R) : Option R :=
  let ev := s.get g
  let c := g.map (·.c)
  let d := o.dst.getD 0
  match o.op with
  | .move x | .assign x => K (ev x) []
  | .pick k a b => (ev k).t?.bind fun k' => gdK c k'.bool? fun kb =>
      (s.getArm g k true a).t?.bind fun x => gdK (gAnd c kb) x.bool? fun xb =>
      (s.getArm g k false b).t?.bind fun y => gdK (gAnd c (!kb)) y.bool? fun yb => K (AV.t (.bool (cond kb xb yb))) []
  | .alloc t => match c with
    | some _ => none
    | none => (zeroC P t).bind fun l => K (.ref (.s d 0) 0) [(.s d 0, .box (l.map .t))]
  | .box _ x => match c with
    | some _ => none
    | none => if (cellsAV (ev x)).all cellAV then K (.ref (.s d 0) 0) [(.s d 0, .box (cellsAV (ev x)))] else none
  | .build t ps => (buildAV P t ev ps.toList).bind fun v => K v []
  | .buildSlice t n ps => (elemT P t).bind fun e => if A.nst o.dst o.type = 1 then
      (match c, ps.toList, n with
      | none, [(0, x)], 1 => if ((cellsAV (ev x)).length = P.cellsOf e ∧ (cellsAV (ev x)).all cellAV = true) ∧ P.cellsOf e ≤ 1000 ∧ 0 < P.cellsOf e ∧ (zeroC P e).isSome = true then K (.own (.s d 0)) [(.s d 0, .arr (cellsAV (ev x)))] else none
      | _, _, _ => none)
      else if ps.size = n ∧ n ≤ 1000 ∧ P.cellsOf e ≤ 1000 ∧ 0 < P.cellsOf e ∧ (zeroC P e).isSome = true then
      if n = 0 ∧ A.app o.dst = true then K (.t (.emp false)) [] else
      (elemsAV P s.h e ev 0 ps.toList).bind fun q =>
      match c with
      | some _ => K (.t (.lst (P.cellsOf e) false q.1)) q.2
      | none => K (.own (.s d 0)) ((.s d 0, .sl false (P.cellsOf e) false q.1) :: q.2)
      else none
  | .load t a => loadAV P s c t (ev a) fun v => K v []
  | .store t a x => match c with
    | some _ => none
    | none => storeAV P s t (ev a) (ev x) fun u => K .top u
  | .nilCheck x => match ev x with
    | .ref i k => K (.ref i k) []
    | .el i sz k o => K (.el i sz k o) []
    | .rel i sz n k o => K (.rel i sz n k o) []
    | .t y => gdK c y.ptr? fun cs => K (.t (.ptr cs)) []
    | .fn f a b => K (.fn f a b) []
    | _ => none
  | .binOp op t x y ty => match op, nilC P t y, nilC P t x with
    | .eql, true, _ => (isNilAV P s t (ev x)).bind fun b => K (.t (.bool b)) []
    | .neq, true, _ => (isNilAV P s t (ev x)).bind fun b => K (.t (.bool (!b))) []
    | .eql, _, true => (isNilAV P s t (ev y)).bind fun b => K (.t (.bool b)) []
    | .neq, _, true => (isNilAV P s t (ev y)).bind fun b => K (.t (.bool (!b))) []
    | .eql, _, _ => eqAV P c t (ev x) (ev y) fun b => K (.t (.bool b)) []
    | .neq, _, _ => eqAV P c t (ev x) (ev y) fun b => K (.t (.bool (!b))) []
    | op, _, _ => (ev x).t?.bind fun a => (ev y).t?.bind fun b => binT P op t ty c a b fun z => K (.t z) []
  | .unOp op t x => (ev x).t?.bind fun a => unT0 P op t c a fun z => K (.t z) []
  | .convert src dst x => match P.underlying src, P.underlying dst with
    | some (.slice e), some .string => match intK P e with
      | some .u8 => (snapOne s.h (ev x)).bind fun y => gdK c ((y.lst? 1).bind fun p => bytesOf p.2) fun l => K (.t (.str ⟨l.toArray⟩)) []
      | _ => none
    | _, _ => (ev x).t?.bind fun a => convT P c src dst a fun z => K (.t z) []
  | .makeFunc (.func f) fst caps => K (.fn f (fst.toList.map ev) (caps.toList.map ev)) []
  | .makeSlice t l m => match c with
    | some _ => none
    | none => (ev l).t?.bind fun n => (ev m).t?.bind fun k => makeAV P d t (A.nst o.dst o.type) n k K
  | .makeMap t m => match c, m with
    | none, none => makeMapAV P d t K
    | _, _ => none
  | .lookup t x k ok => lookupAV P s c t (ev x) (ev k) ok fun v => K v []
  | .mapUpdate t x k v => match c with
    | some _ => none
    | none => putAV P s t (ev x) (ev k) (ev v) fun u => K .top u
  | .slice t x lo hi mx =>
    boundAV s c g lo fun lo => boundAV s c g hi fun hi => boundAV s c g mx fun mx => sliceAV P s c t (ev x) lo hi mx fun v => K v []
  | .fieldAddr t x f => fieldAddrAV P c t (ev x) f fun v => K v []
  | .field t x f => fieldAV P t (ev x) f fun v => K v []
  | .indexAddr t x i => int1 c (ev i) fun n => indexAddrAV P s c t (ev x) n fun v => K v []
  | .index t x i => int1 c (ev i) fun n => match P.underlying t with
    | some .string => (ev x).t?.bind fun y => gdK c y.str? fun b => idxOk c n b.size
        (gdK c b.data.toList[n.toNat]? fun u => K (.t (.int .u8 u.toNat)) [])
    | some (.array m e) => match ev x with
      | .agg vs => cond (tyOk P e) ((allT vs).bind fun l => idxOk c n m (loadT P e c (l.drop (n.toNat * P.cellsOf e)) fun z => K z [])) none
      | _ => none
    | _ => none
  | .extract x k => match ev x with
    | .tup vs => (vs[k]?).bind fun v => K v []
    | _ => none
  | .call cl => match cl.callee with
    | .builtin .len => match cl.args.toList, cl.argTypes.toList with
      | [x], t :: _ => lenAV P s c t (ev x) fun v => K v []
      | _, _ => none
    | .builtin .append => match c, cl.args.toList, cl.argTypes.toList with
      | none, [x, y], [t, u] => appendAV P s d (A.nst o.dst o.type == 3) t u (ev x) (ev y) K
      | _, _, _ => none
    | .builtin .max => match intK P o.type with
      | some k => (allT (cl.args.toList.map ev)).bind fun l => match l with
        | x :: r => gdK c (x.int? k) fun a => minT k c true a r fun z => K (.t z) []
        | [] => none
      | none => none
    | .builtin .min => match intK P o.type with
      | some k => (allT (cl.args.toList.map ev)).bind fun l => match l with
        | x :: r => gdK c (x.int? k) fun a => minT k c false a r fun z => K (.t z) []
        | [] => none
      | none => none
    | .builtin .delete => match c, cl.args.toList, cl.argTypes.toList with
      | none, [x, y], t :: _ => delAV P s t (ev x) (ev y) fun u => K (.tup []) u
      | _, _, _ => none
    | .builtin .cap => match cl.args.toList, cl.argTypes.toList with
      | [x], t :: _ => match P.underlying t with
        | some (.slice _) => match ev x with
          | .t y => cond (isNilT y) (K (.t (.int .i64 0)) []) none
          | _ => none
        | _ => none
      | _, _ => none
    | .value fo => match ev fo with
      | .fn f a b => callL (lendOf fo) P A O s d c f (a ++ cl.args.toList.map ev ++ b) K
      | _ => none
    | _ => none
  | _ => none

end Go.Aev
