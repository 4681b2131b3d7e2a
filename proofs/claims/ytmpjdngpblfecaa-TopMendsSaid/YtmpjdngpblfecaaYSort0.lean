/-
  What slices.SortFunc(rows, slices.Compare) answers: the rows in their order.
-/
import Derived.Test.YtmpjdngpblfecaaYCmp
import Derived.Test.YtmpjdngpblfecaaAevRun
set_option linter.unusedSimpArgs false
set_option linter.unusedVariables false
namespace Go.Aev.Ys
open Go Go.Aev Go.Proofs.Ytmpjdngpblfecaa

def int1? : List T → Option Int
  | [.int .i64 n] => some n
  | _ => none
def ints? : List (List T) → Option (List Int)
  | [] => some []
  | c :: r => (int1? c).bind fun n => (ints? r).bind fun l => some (n :: l)
def rows? : List (List T) → Option (List (List Int))
  | [] => some []
  | [.lst sz e xs] :: r => if sz = 1 then (ints? xs).bind fun l => if e = l.isEmpty ∧ l.length ≤ 1000000 then (rows? r).bind fun q => some (l :: q) else none else none
  | _ :: _ => none
def rowC (l : List Int) : List T := [.lst 1 l.isEmpty (l.map fun n => [.int .i64 n])]
def leC (x y : List Int) : Bool := !decide (lexI y x < 0)
def sortL (q : List (List Int)) : List (List Int) := q.mergeSort leC
/-- The call's answer. -/
def extS : List AV → List Blk → Option (List T)
  | [.own (.c 0), .fn 25 [] []], [.sl false sz e xs] => if sz = 1 then (rows? xs).bind fun q => if q.length ≤ 1000000 then some [.lst 1 e ((sortL q).map rowC)] else none else none
  | _, _ => none
end Go.Aev.Ys
